/- cmp.Compare, flt.Compare, val.Compare: what they do. Numbers that are not negative, in the machine's operations. math/bits.Len64: what it does; numbers of bits. Functions of which a result lies in memory. An owned array that is handed on: from then on it never changes. Drawn regions in which some operations change the heap: what does not depend on that. What a function leaves may be frozen afterwards. Lists of numbers and of bytes. bits.Width, leb.Put, bits.Pack: what they do. bits.Writer, bits.Pack: what they do. Functions that defer a call; deferred functions that recover. The empty text. val.May: what it does. slices.IndexFunc, ContainsFunc of values with a closure: what they do. plain.Check: what it does. leb.Zig, delta.Steps: what they do. leb.Get, leb.Zag: what they do. bits.From, Left, Get, Unpack: what they do. bits.Unpack: what it does. Zig's numbers: plain facts. Widths, and lengths of bytes: plain facts. Bytes as a text, and what is a byte: plain facts. What numbers of bytes come to: plain facts. What is laid down is read, and the other way round: plain facts about bytes. Arguments of the laws, as Lean's data. Zig and zag. The document's numbers of bits, and of bytes (layers 1, 2): what they do. The document's bits of bytes (layer 1): what they do. -/
import Derived.Laws.Externs
import Derived.Laws.Bits64b
import Derived.Laws.Bits64
import Derived.Recover
import Derived.Test.YtkapgooedfompaaGreatM02
namespace Go.Proofs.YtkapgooedfompaaGreat
open Go.Proofs.YtkapgooedfompaaGreatAw Go.RowKit
set_option linter.unusedVariables false
set_option linter.unusedSimpArgs false
abbrev du (n : Nat) : AV := .d (.v (.int .u64 n))
theorem RAs.closed {H : AHeap} {φ : Phi} {N : Addr → Prop} {w : World} {vals : Array Value} (vs : List Value) (h : RAs H φ N w (vs.map fun v => .d (.v v)) vals) : vals = vs.toArray := by
  obtain ⟨hl, hh⟩ := h
  simp only [List.length_map] at hl
  apply Array.ext
  · simpa using hl.symm
  · intro i h1 h2
    have := hh i (by simpa using h2) h1
    simp only [List.getElem_map] at this
    simpa using this.closed
/-- Which of two is ahead. -/
def ordI (less more : Bool) : Int := if less then -1 else if more then 1 else 0
def cmpI (a b : Int) : Int := ordI (decide (a < b)) (decide (b < a))
def lessS (a b : ByteArray) : Bool := Op.bytesLess a.toList b.toList
def cmpS (a b : ByteArray) : Int := ordI (lessS a b) (!(lessS a b || a.toList == b.toList))
def nanN (b : Nat) : Bool := decide (9218868437227405312 < b % 9223372036854775808)
def cleanN (b : Nat) : Nat := if nanN b then 9221120237041090560 else b
def keyN (b : Nat) : Nat := if 9223372036854775808 ≤ cleanN b then 18446744073709551615 - cleanN b else cleanN b + 9223372036854775808
def toU (n : Int) : Nat := (n % 18446744073709551616).toNat
def cmpF (a b : Nat) : Int := ordI (decide (keyN a < keyN b)) (decide (keyN b < keyN a))
def cmpV (a b : Val) : Int := if a.kind ≠ b.kind then cmpI a.kind b.kind else if a.kind = 1 then cmpI a.i b.i else if a.kind = 2 then cmpF (toU a.i) (toU b.i) else if a.kind = 3 then cmpS a.s b.s else 0
theorem toU_lt (n : Int) : toU n < 18446744073709551616 := by unfold toU; omega
theorem wrap_toU (n : Int) : IntKind.u64.wrap n = ((toU n : Nat) : Int) := by
  unfold toU
  rw [Int.toNat_of_nonneg (Int.emod_nonneg _ (by omega))]
  simp [IntKind.wrap, IntKind.signed, IntKind.bits]
theorem cleanN_lt (b : Nat) (h : b < 18446744073709551616) : cleanN b < 18446744073709551616 := by unfold cleanN; split <;> omega
theorem keyN_lt (b : Nat) (h : b < 18446744073709551616) : keyN b < 18446744073709551616 := by
  have := cleanN_lt b h
  unfold keyN; split <;> omega

set_option maxRecDepth 10000 in
theorem isNaN_int_does (a : Int) (H : AHeap) : Does Tryz.prog 96 [iA a] H (.ok (bA false)) H := by
  refine Does.of_awp (hint := (fun _ => false)) Tryz.func96 (by kernel_rfl) rfl [2] (by kernel_rfl) (by decide) (by simp [Tryz.ntmps96]) ?_
  rw [Tryz.ntmps96]
  simp (implicitDefEqProofs := false) only [↓reduceIte, go_sem, Nat.reduceLT, Nat.reduceEqDiff, reduceCtorEq, eq_self]
  refine AEnd.ret0 ?_
  simp (implicitDefEqProofs := false) only [↓reduceIte, go_sem, Nat.reduceLT, eq_self]
set_option maxRecDepth 10000 in
theorem isNaN_int64_does (a : Int) (H : AHeap) : Does Tryz.prog 97 [iA a] H (.ok (bA false)) H := by
  refine Does.of_awp (hint := (fun _ => false)) Tryz.func97 (by kernel_rfl) rfl [2] (by kernel_rfl) (by decide) (by simp [Tryz.ntmps97]) ?_
  rw [Tryz.ntmps97]
  simp (implicitDefEqProofs := false) only [↓reduceIte, go_sem, Nat.reduceLT, Nat.reduceEqDiff, reduceCtorEq, eq_self]
  refine AEnd.ret0 ?_
  simp (implicitDefEqProofs := false) only [↓reduceIte, go_sem, Nat.reduceLT, eq_self]
set_option maxRecDepth 10000 in
theorem isNaN_string_does (a : ByteArray) (H : AHeap) : Does Tryz.prog 98 [sA a] H (.ok (bA false)) H := by
  refine Does.of_awp (hint := (fun _ => false)) Tryz.func98 (by kernel_rfl) rfl [2] (by kernel_rfl) (by decide) (by simp [Tryz.ntmps98]) ?_
  rw [Tryz.ntmps98]
  simp (implicitDefEqProofs := false) only [↓reduceIte, go_sem, Nat.reduceLT, Nat.reduceEqDiff, reduceCtorEq, eq_self]
  refine AEnd.ret0 ?_
  simp (implicitDefEqProofs := false) only [↓reduceIte, go_sem, Nat.reduceLT, eq_self]
set_option maxRecDepth 10000 in
theorem cmp_int_does (a b : Int) (H : AHeap) : Does Tryz.prog 76 [iA a, iA b] H (.ok (iA (cmpI a b))) H := by
  refine Does.of_awp (hint := (fun _ => false)) Tryz.func76 (by kernel_rfl) rfl [4] (by kernel_rfl) (by decide) (by simp [Tryz.ntmps76]) ?_
  rw [Tryz.ntmps76]
  simp (implicitDefEqProofs := false) only [↓reduceIte, go_sem, Nat.reduceLT, Int.reduceNeg, reduceCtorEq, eq_self]
  refine KCall.ok (isNaN_int_does a H) ?_
  simp (implicitDefEqProofs := false) only [↓reduceIte, go_sem, Nat.reduceLT, Nat.reduceEqDiff, Int.reduceNeg, eq_self]
  refine KCall.ok (isNaN_int_does b H) ?_
  simp (implicitDefEqProofs := false) only [↓reduceIte, go_sem, Nat.reduceLT, Nat.reduceEqDiff, Int.reduceNeg, reduceCtorEq, eq_self]
  by_cases h : a < b
  · refine awp_T (by simp (implicitDefEqProofs := false) only [go_sem, eq_self, h]) ?_
    simp (implicitDefEqProofs := false) only [go_sem, Int.reduceNeg]
    refine AEnd.ret0 ?_
    simp (implicitDefEqProofs := false) only [↓reduceIte, go_sem, Nat.reduceLT, Int.reduceNeg, eq_self, cmpI, ordI, h]
  · refine awp_F (by simp (implicitDefEqProofs := false) only [go_sem, eq_self, h]) ?_
    simp (implicitDefEqProofs := false) only [↓reduceIte, go_sem, Nat.reduceLT, Nat.reduceEqDiff, reduceCtorEq, eq_self]
    by_cases h2 : b < a
    · refine awp_T (by simp (implicitDefEqProofs := false) only [go_sem, eq_self, h2]) ?_
      simp (implicitDefEqProofs := false) only [go_sem]
      refine AEnd.ret0 ?_
      simp (implicitDefEqProofs := false) only [↓reduceIte, go_sem, Nat.reduceLT, reduceCtorEq, eq_self, cmpI, ordI, h, h2]
    · refine awp_F (by simp (implicitDefEqProofs := false) only [go_sem, eq_self, h2]) ?_
      simp (implicitDefEqProofs := false) only [go_sem]
      refine AEnd.ret0 ?_
      simp (implicitDefEqProofs := false) only [↓reduceIte, go_sem, Nat.reduceLT, reduceCtorEq, eq_self, cmpI, ordI, h, h2]
set_option maxRecDepth 10000 in
theorem cmp_int64_does (a b : Int) (H : AHeap) : Does Tryz.prog 77 [iA a, iA b] H (.ok (iA (cmpI a b))) H := by
  refine Does.of_awp (hint := (fun _ => false)) Tryz.func77 (by kernel_rfl) rfl [4] (by kernel_rfl) (by decide) (by simp [Tryz.ntmps77]) ?_
  rw [Tryz.ntmps77]
  simp (implicitDefEqProofs := false) only [↓reduceIte, go_sem, Nat.reduceLT, Int.reduceNeg, reduceCtorEq, eq_self]
  refine KCall.ok (isNaN_int64_does a H) ?_
  simp (implicitDefEqProofs := false) only [↓reduceIte, go_sem, Nat.reduceLT, Nat.reduceEqDiff, Int.reduceNeg, eq_self]
  refine KCall.ok (isNaN_int64_does b H) ?_
  simp (implicitDefEqProofs := false) only [↓reduceIte, go_sem, Nat.reduceLT, Nat.reduceEqDiff, Int.reduceNeg, reduceCtorEq, eq_self]
  by_cases h : a < b
  · refine awp_T (by simp (implicitDefEqProofs := false) only [go_sem, eq_self, h]) ?_
    simp (implicitDefEqProofs := false) only [go_sem, Int.reduceNeg]
    refine AEnd.ret0 ?_
    simp (implicitDefEqProofs := false) only [↓reduceIte, go_sem, Nat.reduceLT, Int.reduceNeg, eq_self, cmpI, ordI, h]
  · refine awp_F (by simp (implicitDefEqProofs := false) only [go_sem, eq_self, h]) ?_
    simp (implicitDefEqProofs := false) only [↓reduceIte, go_sem, Nat.reduceLT, Nat.reduceEqDiff, reduceCtorEq, eq_self]
    by_cases h2 : b < a
    · refine awp_T (by simp (implicitDefEqProofs := false) only [go_sem, eq_self, h2]) ?_
      simp (implicitDefEqProofs := false) only [go_sem]
      refine AEnd.ret0 ?_
      simp (implicitDefEqProofs := false) only [↓reduceIte, go_sem, Nat.reduceLT, reduceCtorEq, eq_self, cmpI, ordI, h, h2]
    · refine awp_F (by simp (implicitDefEqProofs := false) only [go_sem, eq_self, h2]) ?_
      simp (implicitDefEqProofs := false) only [go_sem]
      refine AEnd.ret0 ?_
      simp (implicitDefEqProofs := false) only [↓reduceIte, go_sem, Nat.reduceLT, reduceCtorEq, eq_self, cmpI, ordI, h, h2]
set_option maxRecDepth 10000 in
theorem cmp_string_does (a b : ByteArray) (H : AHeap) : Does Tryz.prog 79 [sA a, sA b] H (.ok (iA (cmpS a b))) H := by
  refine Does.of_awp (hint := (fun _ => false)) Tryz.func79 (by kernel_rfl) rfl [4] (by kernel_rfl) (by decide) (by simp [Tryz.ntmps79]) ?_
  rw [Tryz.ntmps79]
  simp (implicitDefEqProofs := false) only [↓reduceIte, go_sem, Nat.reduceLT, Int.reduceNeg, reduceCtorEq, eq_self]
  refine KCall.ok (isNaN_string_does a H) ?_
  simp (implicitDefEqProofs := false) only [↓reduceIte, go_sem, Nat.reduceLT, Nat.reduceEqDiff, Int.reduceNeg, eq_self]
  refine KCall.ok (isNaN_string_does b H) ?_
  simp (implicitDefEqProofs := false) only [↓reduceIte, go_sem, Nat.reduceLT, Nat.reduceEqDiff, Int.reduceNeg, reduceCtorEq, eq_self]
  cases h : Op.bytesLess a.toList b.toList with
  | true =>
    refine awp_T (by simp (implicitDefEqProofs := false) only [go_sem, eq_self]) ?_
    simp (implicitDefEqProofs := false) only [go_sem, Int.reduceNeg]
    refine AEnd.ret0 ?_
    simp (implicitDefEqProofs := false) only [↓reduceIte, go_sem, Nat.reduceLT, Int.reduceNeg, eq_self, cmpS, ordI, lessS, h]
  | false =>
    refine awp_F (by simp (implicitDefEqProofs := false) only [go_sem, eq_self]) ?_
    simp (implicitDefEqProofs := false) only [↓reduceIte, go_sem, Nat.reduceLT, Nat.reduceEqDiff, reduceCtorEq, eq_self, h]
    cases h2 : (a.toList == b.toList) with
    | false =>
      refine awp_T (by simp (implicitDefEqProofs := false) only [go_sem, eq_self]) ?_
      simp (implicitDefEqProofs := false) only [go_sem]
      refine AEnd.ret0 ?_
      simp (implicitDefEqProofs := false) only [↓reduceIte, go_sem, Nat.reduceLT, reduceCtorEq, eq_self, cmpS, ordI, lessS, h, h2]
    | true =>
      refine awp_F (by simp (implicitDefEqProofs := false) only [go_sem, eq_self]) ?_
      simp (implicitDefEqProofs := false) only [go_sem]
      refine AEnd.ret0 ?_
      simp (implicitDefEqProofs := false) only [↓reduceIte, go_sem, Nat.reduceLT, reduceCtorEq, eq_self, cmpS, ordI, lessS, h, h2]
theorem order_self (b : Nat) (hb : b < 18446744073709551616) : (FloatKind.f64.format.order b b != some .eq) = nanN b := by
  have key : ∀ d : Ieee.Datum, (d.order d != some .eq) = d.isNaN := by
    intro d
    cases d with
    | nan s f => rfl
    | infinity s => simp [Ieee.Datum.order, Ieee.Datum.isNaN]
    | number s m i => simp [Ieee.Datum.order, Ieee.Datum.isNaN]
  have h1 : (FloatKind.f64.format.order b b != some .eq) = (FloatKind.f64.format.read b).isNaN := key _
  rw [h1]
  have hs : FloatKind.f64.format.signWeight = 9223372036854775808 := by decide
  have hb' : FloatKind.f64.format.binade = 4503599627370496 := by decide
  have hi : FloatKind.f64.format.infRung = 9218868437227405312 := by decide
  unfold Ieee.Format.read nanN
  rw [hs, hb', hi]
  generalize b % 9223372036854775808 = r
  by_cases h1 : r < 4503599627370496
  · simp only [h1, if_true, Ieee.Datum.isNaN]; simp; omega
  · by_cases h2 : r < 9218868437227405312
    · simp only [h1, h2, if_true, if_false, Ieee.Datum.isNaN]; simp; omega
    · by_cases h3 : r = 9218868437227405312
      · subst h3; simp [Ieee.Datum.isNaN]
      · simp only [h1, h2, h3, if_false, Ieee.Datum.isNaN]; simp; omega
def frombitsEntry : Array Value → Sem Value := Extern.MathFloatBits.float64frombits
theorem frombits_does (n : Nat) (H : AHeap) : Does Tryz.prog 99 [du n] H (.ok (.d (.v (.float .f64 n)))) H := by
  intro φ N w vals hR hA
  have hv := RAs.closed [.int .u64 (n : Int)] hA
  subst hv
  refine .inr ⟨.float .f64 n, w, ?_, φ, N, hR, Since.refl, .d (.v _ rfl)⟩
  rw [run_callFunc_extern (e := frombitsEntry) Tryz.func99 (by kernel_rfl) (by kernel_rfl) (by kernel_rfl) (by kernel_rfl)]
  rfl
set_option maxRecDepth 10000 in
theorem fclean_does (b : Nat) (hb : b < 18446744073709551616) (H : AHeap) : Does Tryz.prog 83 [du b] H (.ok (du (cleanN b))) H := by
  refine Does.of_awp (hint := (fun _ => false)) Tryz.func83 (by kernel_rfl) rfl [2] (by kernel_rfl) (by decide) (by simp [Tryz.ntmps83]) ?_
  rw [Tryz.ntmps83]
  simp (implicitDefEqProofs := false) only [↓reduceIte, go_sem, Nat.reduceLT, reduceCtorEq, eq_self]
  refine KCall.ok (frombits_does b H) ?_
  simp (implicitDefEqProofs := false) only [↓reduceIte, go_sem, Nat.reduceLT, Nat.reduceEqDiff, eq_self, order_self b hb]
  cases h : nanN b with
  | true =>
    refine awp_T (by simp (implicitDefEqProofs := false) only [go_sem, eq_self]) ?_
    simp (implicitDefEqProofs := false) only [go_sem]
    refine AEnd.ret0 ?_
    simp (implicitDefEqProofs := false) only [↓reduceIte, go_sem, Nat.reduceLT, eq_self, cleanN, h, du]
  | false =>
    refine awp_F (by simp (implicitDefEqProofs := false) only [go_sem, eq_self]) ?_
    simp (implicitDefEqProofs := false) only [↓reduceIte, go_sem, Nat.reduceLT, reduceCtorEq, eq_self]
    refine AEnd.ret0 ?_
    simp (implicitDefEqProofs := false) only [↓reduceIte, go_sem, Nat.reduceLT, eq_self, cleanN, h, Bool.false_eq_true]
theorem orTop (c : Nat) (h : c < 9223372036854775808) : IntKind.u64.wrap (orI .u64 (c : Int) 9223372036854775808) = ((c + 9223372036854775808 : Nat) : Int) := by
  have e := bits_or_u64_nat c 9223372036854775808 (by omega) (by omega)
  have : c ||| 9223372036854775808 = c + 9223372036854775808 := by
    have := Nat.two_pow_add_eq_or_of_lt (i := 63) (b := c) (by omega) 1
    rw [Nat.or_comm]
    simpa [Nat.add_comm] using this.symm
  rw [this] at e
  exact e
theorem notU (c : Nat) (h : c < 18446744073709551616) : IntKind.u64.wrap (notI .u64 (c : Int)) = ((18446744073709551615 - c : Nat) : Int) := by
  have e := bits_xor_u64_nat 18446744073709551615 c (by omega) h
  have : 18446744073709551615 ^^^ c = 18446744073709551615 - c := by
    rw [Nat.xor_comm]
    have := Nat.testBit_two_pow_sub_succ (x := c) (n := 64) h
    apply Nat.eq_of_testBit_eq
    intro i
    rw [Nat.testBit_xor]
    have h2 := this i
    rw [show 2 ^ 64 - (c + 1) = 18446744073709551615 - c from by omega] at h2
    rw [h2]
    have h3 : (18446744073709551615 : Nat).testBit i = decide (i < 64) := by
      have := Nat.testBit_two_pow_sub_one 64 i
      simpa using this
    rw [h3]
    by_cases hi : i < 64
    · simp [hi]
    · have h5 : 2 ^ 64 ≤ 2 ^ i := Nat.pow_le_pow_right (by omega) (by omega)
      have : c.testBit i = false := Nat.testBit_lt_two_pow (by omega)
      simp [hi, this]
  rw [this] at e
  exact e
set_option maxRecDepth 10000 in
theorem fkey_does (b : Nat) (hb : b < 18446744073709551616) (H : AHeap) : Does Tryz.prog 53 [du b] H (.ok (du (keyN b))) H := by
  have hc := cleanN_lt b hb
  have k1 := fclean_does b hb H
  unfold keyN
  generalize cleanN b = c at hc k1 ⊢
  refine Does.of_awp (hint := (fun _ => false)) Tryz.func53 (by kernel_rfl) rfl [2] (by kernel_rfl) (by decide) (by simp [Tryz.ntmps53]) ?_
  rw [Tryz.ntmps53]
  simp (implicitDefEqProofs := false) only [↓reduceIte, go_sem, Nat.reduceLT, reduceCtorEq, eq_self]
  refine KCall.ok k1 ?_
  simp (implicitDefEqProofs := false) only [↓reduceIte, go_sem, Nat.reduceLT, eq_self]
  by_cases h : 9223372036854775808 ≤ c
  · simp (implicitDefEqProofs := false) only [↓reduceIte, go_sem, Nat.reduceLT, reduceCtorEq, eq_self, show (9223372036854775808 : Int) ≤ c from by omega, notU c hc]
    refine AEnd.ret0 ?_
    simp (implicitDefEqProofs := false) only [↓reduceIte, go_sem, Nat.reduceLT, eq_self, h, du]
  · simp (implicitDefEqProofs := false) only [↓reduceIte, go_sem, Nat.reduceLT, reduceCtorEq, eq_self, show ¬ (9223372036854775808 : Int) ≤ c from by omega, orTop c (by omega)]
    refine AEnd.ret0 ?_
    simp (implicitDefEqProofs := false) only [↓reduceIte, go_sem, Nat.reduceLT, eq_self, h, du]
set_option maxRecDepth 10000 in
theorem fcmp_does (a b : Nat) (ha : a < 18446744073709551616) (hb : b < 18446744073709551616) (H : AHeap) : Does Tryz.prog 78 [du a, du b] H (.ok (iA (cmpF a b))) H := by
  have k1 := fkey_does a ha H
  have k2 := fkey_does b hb H
  unfold cmpF
  generalize keyN a = x at k1 ⊢
  generalize keyN b = y at k2 ⊢
  refine Does.of_awp (hint := (fun _ => false)) Tryz.func78 (by kernel_rfl) rfl [4] (by kernel_rfl) (by decide) (by simp [Tryz.ntmps78]) ?_
  rw [Tryz.ntmps78]
  simp (implicitDefEqProofs := false) only [↓reduceIte, go_sem, Nat.reduceLT, Int.reduceNeg, reduceCtorEq, eq_self]
  refine KCall.ok k1 ?_
  simp (implicitDefEqProofs := false) only [↓reduceIte, go_sem, Nat.reduceLT, Nat.reduceEqDiff, eq_self]
  refine KCall.ok k2 ?_
  simp (implicitDefEqProofs := false) only [↓reduceIte, go_sem, Nat.reduceLT, Nat.reduceEqDiff, Int.reduceNeg, eq_self]
  by_cases h : x < y
  · refine awp_T (by simp (implicitDefEqProofs := false) only [go_sem, eq_self, h]) ?_
    simp (implicitDefEqProofs := false) only [go_sem, Int.reduceNeg]
    refine AEnd.ret0 ?_
    simp (implicitDefEqProofs := false) only [↓reduceIte, go_sem, Nat.reduceLT, Int.reduceNeg, eq_self, ordI, h]
  · refine awp_F (by simp (implicitDefEqProofs := false) only [go_sem, eq_self, h]) ?_
    simp (implicitDefEqProofs := false) only [↓reduceIte, go_sem, Nat.reduceLT, Nat.reduceEqDiff, eq_self]
    by_cases h2 : y < x
    · refine awp_T (by simp (implicitDefEqProofs := false) only [go_sem, eq_self, h2]) ?_
      simp (implicitDefEqProofs := false) only [go_sem]
      refine AEnd.ret0 ?_
      simp (implicitDefEqProofs := false) only [↓reduceIte, go_sem, Nat.reduceLT, reduceCtorEq, eq_self, ordI, h, h2]
    · refine awp_F (by simp (implicitDefEqProofs := false) only [go_sem, eq_self, h2]) ?_
      simp (implicitDefEqProofs := false) only [go_sem]
      refine AEnd.ret0 ?_
      simp (implicitDefEqProofs := false) only [↓reduceIte, go_sem, Nat.reduceLT, reduceCtorEq, eq_self, ordI, h, h2]
/-- A value as an argument. -/
abbrev Val.av (v : Val) : AV := .agg [iA v.kind, iA v.i, sA v.s]
set_option maxRecDepth 10000 in
set_option maxHeartbeats 1000000 in
theorem vcmp_does (a b : Val) (H : AHeap) : Does Tryz.prog 40 [a.av, b.av] H (.ok (iA (cmpV a b))) H := by
  unfold cmpV
  refine Does.of_awp (hint := (fun _ => false)) Tryz.func40 (by kernel_rfl) rfl [4] (by kernel_rfl) (by decide) (by simp [Tryz.ntmps40]) ?_
  rw [Tryz.ntmps40]
  simp (implicitDefEqProofs := false) only [↓reduceIte, go_sem, oread, Nat.reduceAdd, Nat.reduceLT, Nat.reduceLeDiff, Nat.reduceEqDiff, eq_self]
  by_cases h : a.kind = b.kind
  · refine awp_F (by simp (implicitDefEqProofs := false) only [go_sem, eq_self, h]) ?_
    simp (implicitDefEqProofs := false) only [↓reduceIte, go_sem, oread, Nat.reduceAdd, Nat.reduceLT, Nat.reduceLeDiff, Nat.reduceEqDiff, eq_self]
    by_cases h1 : a.kind = 1
    · refine awp_T (by simp (implicitDefEqProofs := false) only [go_sem, eq_self, h1]) ?_
      simp (implicitDefEqProofs := false) only [↓reduceIte, go_sem, oread, Nat.reduceAdd, Nat.reduceLT, Nat.reduceLeDiff, Nat.reduceEqDiff, eq_self]
      refine KCall.ok (cmp_int64_does _ _ _) ?_
      simp (implicitDefEqProofs := false) only [↓reduceIte, go_sem, Nat.reduceLT, eq_self]
      refine AEnd.ret ?_
      simp (implicitDefEqProofs := false) only [↓reduceIte, go_sem, Nat.reduceLT, eq_self, h1, ← h]
    · refine awp_F (by simp (implicitDefEqProofs := false) only [go_sem, eq_self, h1]) ?_
      simp (implicitDefEqProofs := false) only [↓reduceIte, go_sem, Nat.reduceLT, Nat.reduceEqDiff, eq_self]
      by_cases h2 : a.kind = 2
      · refine awp_T (by simp (implicitDefEqProofs := false) only [go_sem, eq_self, h2]) ?_
        simp (implicitDefEqProofs := false) only [↓reduceIte, go_sem, oread, Nat.reduceAdd, Nat.reduceLT, Nat.reduceLeDiff, Nat.reduceEqDiff, eq_self, wrap_toU]
        refine KCall.ok (fcmp_does _ _ (toU_lt _) (toU_lt _) _) ?_
        simp (implicitDefEqProofs := false) only [↓reduceIte, go_sem, Nat.reduceLT, eq_self]
        refine AEnd.ret ?_
        simp (implicitDefEqProofs := false) only [↓reduceIte, go_sem, Nat.reduceLT, Int.reduceEq, eq_self, h2, ← h]
      · refine awp_F (by simp (implicitDefEqProofs := false) only [go_sem, eq_self, h2]) ?_
        simp (implicitDefEqProofs := false) only [↓reduceIte, go_sem, Nat.reduceLT, Nat.reduceEqDiff, eq_self]
        by_cases h3 : a.kind = 3
        · refine awp_T (by simp (implicitDefEqProofs := false) only [go_sem, eq_self, h3]) ?_
          simp (implicitDefEqProofs := false) only [↓reduceIte, go_sem, oread, Nat.reduceAdd, Nat.reduceLT, Nat.reduceEqDiff, eq_self]
          refine KCall.ok (cmp_string_does _ _ _) ?_
          simp (implicitDefEqProofs := false) only [↓reduceIte, go_sem, Nat.reduceLT, eq_self]
          refine AEnd.ret ?_
          simp (implicitDefEqProofs := false) only [↓reduceIte, go_sem, Nat.reduceLT, Int.reduceEq, eq_self, h3, ← h]
        · refine awp_F (by simp (implicitDefEqProofs := false) only [go_sem, eq_self, h3]) ?_
          simp (implicitDefEqProofs := false) only [go_sem]
          refine AEnd.ret ?_
          simp (implicitDefEqProofs := false) only [↓reduceIte, go_sem, Nat.reduceLT, eq_self, h1, h2, h3, ← h]
  · refine awp_T (by simp (implicitDefEqProofs := false) only [go_sem, eq_self, h]) ?_
    simp (implicitDefEqProofs := false) only [↓reduceIte, go_sem, oread, Nat.reduceAdd, Nat.reduceLT, Nat.reduceLeDiff, Nat.reduceEqDiff, eq_self]
    refine KCall.ok (cmp_int_does _ _ _) ?_
    simp (implicitDefEqProofs := false) only [↓reduceIte, go_sem, Nat.reduceLT, eq_self]
    refine AEnd.ret ?_
    simp (implicitDefEqProofs := false) only [↓reduceIte, go_sem, Nat.reduceLT, eq_self, h]
end Go.Proofs.YtkapgooedfompaaGreat
namespace Go.Proofs.YtkapgooedfompaaGreat
open Go.Proofs.YtkapgooedfompaaGreatAw Go.RowKit
set_option linter.unusedVariables false
theorem shrU (n k : Nat) (h : k ≤ 64) : shrI .u64 (n : Int) (k : Int) = ((n / 2 ^ k : Nat) : Int) := by
  have : min k 64 = k := by omega
  simp only [shrI, IntKind.bits, Int.toNat_natCast, this]
  rw [Int.fdiv_eq_ediv_of_nonneg _ (by exact_mod_cast Nat.zero_le _)]
  norm_cast
theorem wrap8N (n : Nat) (h : n < 256) : IntKind.u8.wrap (n : Int) = n := wrapu8_in _ (by omega) (by omega)
theorem orI_nat (k : IntKind) (a b : Nat) (ha : a < 2 ^ k.bits) (hb : b < 2 ^ k.bits) : orI k (a : Int) (b : Int) = ((a ||| b : Nat) : Int) := by
  simp [orI, BitVec.toNat_or, BitVec.ofInt_natCast, Nat.mod_eq_of_lt ha, Nat.mod_eq_of_lt hb]
theorem andI_nat (k : IntKind) (a b : Nat) (ha : a < 2 ^ k.bits) (hb : b < 2 ^ k.bits) : andI k (a : Int) (b : Int) = ((a &&& b : Nat) : Int) := by
  simp [andI, BitVec.toNat_and, BitVec.ofInt_natCast, Nat.mod_eq_of_lt ha, Nat.mod_eq_of_lt hb]
theorem wrapU64N (n : Nat) (h : n < 18446744073709551616) : IntKind.u64.wrap (n : Int) = n := wrapu64_in _ (by omega) (by omega)
theorem wrapU8mod (n : Nat) : IntKind.u8.wrap (n : Int) = ((n % 256 : Nat) : Int) := by simp [IntKind.wrap, IntKind.signed, IntKind.bits]
theorem wrapI (n : Nat) (h : n ≤ 1000000000000) : IntKind.i64.wrap (n : Int) = (n : Int) := wrap64_in _ (by omega) (by omega)
end Go.Proofs.YtkapgooedfompaaGreat
namespace Go.Proofs.YtkapgooedfompaaGreat
open Go.Proofs.YtkapgooedfompaaGreatAw Go.RowKit
set_option linter.unusedVariables false
set_option linter.unusedSimpArgs false
def lenN (n : Nat) : Nat := if n = 0 then 0 else n.log2 + 1
theorem lenN_le (n w : Nat) : lenN n ≤ w ↔ n < 2 ^ w := by
  unfold lenN
  split
  · subst_vars; simp [Nat.two_pow_pos]
  · rename_i h
    rw [← Nat.log2_lt h]; omega
theorem lenN_div (n k : Nat) (h : 2 ^ k ≤ n) : lenN n = k + lenN (n / 2 ^ k) := by
  have key : ∀ w, lenN n ≤ w ↔ k + lenN (n / 2 ^ k) ≤ w := by
    intro w
    rcases Nat.lt_or_ge w k with hw | hw
    · rw [lenN_le]
      have : 2 ^ w ≤ 2 ^ k := Nat.pow_le_pow_right (by omega) (by omega)
      omega
    · rw [show (k + lenN (n / 2 ^ k) ≤ w) = (lenN (n / 2 ^ k) ≤ w - k) from propext ⟨fun h => by omega, fun h => by omega⟩, lenN_le, lenN_le, Nat.div_lt_iff_lt_mul (Nat.two_pow_pos k), ← Nat.pow_add, Nat.sub_add_cancel hw]
  exact Nat.le_antisymm ((key _).2 (Nat.le_refl _)) ((key _).1 (Nat.le_refl _))
theorem lenTab : ∀ n, n < 256 → ∀ b : ByteArray, b.data.toList = (List.range 256).map (fun n => UInt8.ofNat (lenN n)) → b[n]? = some (UInt8.ofNat (lenN n)) := by
  intro n hn b hb
  have : b.data[n]? = some (UInt8.ofNat (lenN n)) := by
    rw [← Array.getElem?_toList, hb]; simp [hn]
  obtain ⟨h1, h2⟩ := Array.getElem?_eq_some_iff.1 this
  rw [getElem?_pos b n h1]
  exact congrArg some h2
theorem ofNat_len {n : Nat} (h : n < 256) : (UInt8.ofNat (lenN n)).toNat = lenN n := by
  have : lenN n ≤ 8 := (lenN_le n 8).2 h
  simp; omega
theorem len_small (n : Nat) : (4294967296 ≤ n → lenN n = 32 + lenN (n / 4294967296)) ∧ (65536 ≤ n → lenN n = 16 + lenN (n / 65536)) ∧ (256 ≤ n → lenN n = 8 + lenN (n / 256)) :=
  ⟨lenN_div n 32, lenN_div n 16, lenN_div n 8⟩
set_option maxRecDepth 10000 in
set_option maxHeartbeats 1000000 in
theorem len64_does (n : Nat) (hn : n < 18446744073709551616) (H : AHeap) : Does Tryz.prog 84 [du n] H (.ok (iA (lenN n))) H := by
  have s32 : ∀ n : Nat, shrI .u64 (n : Int) 32 = ((n / 4294967296 : Nat) : Int) := fun n => shrU n 32 (by decide)
  have s16 : ∀ n : Nat, shrI .u64 (n : Int) 16 = ((n / 65536 : Nat) : Int) := fun n => shrU n 16 (by decide)
  have s8 : ∀ n : Nat, shrI .u64 (n : Int) 8 = ((n / 256 : Nat) : Int) := fun n => shrU n 8 (by decide)
  have w48 : IntKind.i64.wrap 48 = 48 := rfl
  have w56 : IntKind.i64.wrap 56 = 56 := rfl
  have w40 : IntKind.i64.wrap 40 = 40 := rfl
  have w24 : IntKind.i64.wrap 24 = 24 := rfl
  have w16 : IntKind.i64.wrap 16 = 16 := rfl
  have w8 : IntKind.i64.wrap 8 = 8 := rfl
  have fin : ∀ (r : Int) (q m : Nat), r = (q : Int) → q ≤ 56 → m < 256 → IntKind.i64.wrap (r + IntKind.i64.wrap ((lenN m : Nat) : Int)) = ((q + lenN m : Nat) : Int) := fun r q m h0 hr hm => by
    have := (lenN_le m 8).2 hm
    rw [wrap64_in (lenN m : Int) (by omega) (by omega), wrap64_in _ (by omega) (by omega)]
    omega
  refine Does.of_awp (hint := (fun _ => false)) Tryz.func84 (by kernel_rfl) rfl [2] (by kernel_rfl) (by decide) (by simp [Tryz.ntmps84]) ?_
  rw [Tryz.ntmps84]
  simp (implicitDefEqProofs := false) only [↓reduceIte, go_sem, Nat.reduceLT, reduceCtorEq, eq_self]
  by_cases h : (4294967296 : Int) ≤ (n : Int)
  all_goals first
    | (have e1 := (len_small n).1 (by omega)
       simp (implicitDefEqProofs := false) only [↓reduceIte, go_sem, Nat.reduceLT, Int.reduceLE, reduceCtorEq, eq_self, h, s32]
       have hn1 : n / 4294967296 < 4294967296 := by omega
       generalize n / 4294967296 = n1 at e1 hn1 ⊢)
    | (simp (implicitDefEqProofs := false) only [↓reduceIte, go_sem, Nat.reduceLT, reduceCtorEq, eq_self, h]
       obtain ⟨n1, g1⟩ : ∃ n1, n1 = n := ⟨_, rfl⟩
       have hn1 : n1 < 4294967296 := by omega
       have e1 : lenN n = 0 + lenN n1 := by rw [g1]; omega
       rw [← g1])
  all_goals
    by_cases h2 : (65536 : Int) ≤ (n1 : Int)
    all_goals first
      | (have e2 := (len_small n1).2.1 (by omega)
         simp (implicitDefEqProofs := false) only [↓reduceIte, go_sem, Nat.reduceLT, Nat.reduceEqDiff, Int.reduceLE, Int.reduceAdd, reduceCtorEq, eq_self, h2, s16, w48]
         have hn2 : n1 / 65536 < 65536 := by omega
         generalize n1 / 65536 = n2 at e2 hn2 ⊢)
      | (simp (implicitDefEqProofs := false) only [↓reduceIte, go_sem, Nat.reduceLT, reduceCtorEq, eq_self, h2]
         obtain ⟨n2, g2⟩ : ∃ n2, n2 = n1 := ⟨_, rfl⟩
         have hn2 : n2 < 65536 := by omega
         have e2 : lenN n1 = 0 + lenN n2 := by rw [g2]; omega
         rw [← g2])
    all_goals
      by_cases h3 : (256 : Int) ≤ (n2 : Int)
      all_goals first
        | (have e3 := (len_small n2).2.2 (by omega)
           simp (implicitDefEqProofs := false) only [↓reduceIte, go_sem, Nat.reduceLT, Nat.reduceEqDiff, Int.reduceLE, Int.reduceAdd, reduceCtorEq, eq_self, h3, s8, w56, w40, w24, w16, w8]
           have hn3 : n2 / 256 < 256 := by omega
           generalize n2 / 256 = n3 at e3 hn3 ⊢)
        | (simp (implicitDefEqProofs := false) only [↓reduceIte, go_sem, Nat.reduceLT, Nat.reduceEqDiff, reduceCtorEq, eq_self, h3]
           obtain ⟨n3, g3⟩ : ∃ n3, n3 = n2 := ⟨_, rfl⟩
           have hn3 : n3 < 256 := by omega
           have e3 : lenN n2 = 0 + lenN n3 := by rw [g3]; omega
           rw [← g3])
      all_goals
        simp (implicitDefEqProofs := false) only [go_sem, wrap8N n3 hn3]
        rw [lenTab n3 hn3 _ (by kernel_rfl)]
        simp (implicitDefEqProofs := false) only [↓reduceIte, go_sem, Nat.reduceLT, Nat.reduceEqDiff, eq_self, ofNat_len hn3]
        refine AEnd.ret0 ?_
        have f0 := fin 0 0 n3 rfl (by decide) hn3
        have f8 := fin 8 8 n3 rfl (by decide) hn3
        have f16 := fin 16 16 n3 rfl (by decide) hn3
        have f24 := fin 24 24 n3 rfl (by decide) hn3
        have f32 := fin 32 32 n3 rfl (by decide) hn3
        have f40 := fin 40 40 n3 rfl (by decide) hn3
        have f48 := fin 48 48 n3 rfl (by decide) hn3
        have f56 := fin 56 56 n3 rfl (by decide) hn3
        simp (implicitDefEqProofs := false) only [↓reduceIte, go_sem, Nat.reduceLT, eq_self, w16, f0, f8, f16, f24, f32, f40, f48, f56]
        all_goals
          refine congrArg (fun m : Nat => iA m) ?_
          first | omega | (simp only [e1, e2, e3]; omega)
end Go.Proofs.YtkapgooedfompaaGreat
namespace Go.Proofs.YtkapgooedfompaaGreatAw
open Go.RowKit
set_option linter.unusedVariables false
set_option linter.unusedSimpArgs false
def resAV (P : Program) (H : AHeap) (s : Nat → AV) : ResultVar → Option AV
  | .tmp t => some (s t)
  | .cell a t => (agB P t).bind fun b => if b = true then (TI P t).bind fun z => (aread H z.2.1 (s a)).map .agg else as1 (aread H 1 (s a))
def resAll (P : Program) (H : AHeap) (s : Nat → AV) : List ResultVar → Option (List AV)
  | [] => some []
  | r :: rs => (resAV P H s r).bind fun x => (resAll P H s rs).map (x :: ·)
def AEndC (P : Program) (rs : List ResultVar) (H0 : AHeap) (res : ARes) (H' : AHeap) : Post := fun e s H =>
  match e with
  | .normal | .ret => ∃ avs s', resAll P H s rs = some avs ∧ Weak H0 (fun t => avs.getD t .top) H s' H' ∧ res = .ok (ares (List.range avs.length) s')
  | .panic v => ∃ s', Weak H0 s H s' H' ∧ res = .panic v
  | _ => False
section
variable {P : Program} {H : AHeap} {φ : Phi} {N : Addr → Prop} {w : World} {s : Nat → AV} {a : Act}
theorem loadVar_agg (hR : Rel H φ N w) {x : AV} {v : Value} (hx : RA H φ N w x v) {t : TypeId} (hg : agB P t = some true) {z : Value} {k b : Nat} (hi : TI P t = some (z, k, b)) {cs : List AV} (h : aread H k x = some cs) :
    ∃ ad u, v = .pointer (some ad) ∧ (loadVar t ad).run P w = .ok u w ∧ RA H φ N w (.agg cs) u := by
  obtain ⟨hl, ad, hv, hh⟩ := aread_ok hR hx h
  let f : Nat → Value := fun t => if ht : t < cs.length then (hh t ht).choose else undef
  have hf : ∀ t (ht : t < cs.length), w.cell? (ad.add t) = some (f t) ∧ RA H φ N w (cs[t]) (f t) := fun t ht => by
    simp only [f, ht, dif_pos]; exact (hh t ht).choose_spec
  have hrun := run_loadCells (P := P) w ad k f fun j hj => (hf j (by omega)).1
  refine ⟨ad, .agg ((List.range k).map f).toArray, hv, ?_, .agg _ _ (by simp [hl]) fun i h1 h2 => ?_⟩
  · simp only [loadVar, Sem.run_bind, agB.run hg, Result.andThen_ok, if_true, TI.sizeOf hi, hrun, Sem.run_pure]
  · simp only [List.getElem_toArray, List.getElem_map, List.getElem_range]
    exact (hf i h1).2
theorem loadVar_one (hR : Rel H φ N w) {x : AV} {v : Value} (hx : RA H φ N w x v) {t : TypeId} (hg : agB P t = some false) {c : AV} (h : aread H 1 x = some [c]) :
    ∃ ad u, v = .pointer (some ad) ∧ (loadVar t ad).run P w = .ok u w ∧ RA H φ N w c u := by
  obtain ⟨hl, ad, hv, hh⟩ := aread_ok hR hx h
  obtain ⟨u, hu, hr⟩ := hh 0 (by simp)
  have hu' : w.cell? ad = some u := by simpa [Addr.add] using hu
  exact ⟨ad, u, hv, by simp only [loadVar, Sem.run_bind, agB.run hg, Result.andThen_ok, Bool.false_eq_true, if_false, run_load, hu'], hr⟩
theorem resAV_ok (hR : Rel H φ N w) (hT : TRel H φ N w s a) {r : ResultVar} {x : AV} (h : resAV P H s r = some x) :
    ∃ u, (match r with | .tmp t => pure (a.tmps.getD t undef) | .cell b t => do loadVar t (← asAddr (a.tmps.getD b undef)) : Sem Value).run P w = .ok u w ∧ RA H φ N w x u := by
  cases r with
  | tmp t => cases h; exact ⟨_, rfl, hT t⟩
  | cell b t =>
    simp only [resAV] at h
    obtain ⟨g, hg, h⟩ := Option.bind_eq_some_iff.1 h
    cases g with
    | true =>
      rw [if_pos rfl] at h
      obtain ⟨⟨z, k, bb⟩, hz, h⟩ := Option.bind_eq_some_iff.1 h
      obtain ⟨cs, hc, rfl⟩ := Option.map_eq_some_iff.1 h
      obtain ⟨ad, u, hv, hrun, hu⟩ := loadVar_agg hR (hT b) hg hz hc
      exact ⟨u, by simp only [hv, Sem.run_bind, asAddr, Sem.run_pure, Result.andThen_ok, hrun], hu⟩
    | false =>
      rw [if_neg (by simp)] at h
      have hc : aread H 1 (s b) = some [x] := by
        revert h
        cases aread H 1 (s b) with
        | none => intro h; cases h
        | some l => rcases l with _ | ⟨c, _ | ⟨d, l⟩⟩ <;> intro h <;> cases h; rfl
      obtain ⟨ad, u, hv, hrun, hu⟩ := loadVar_one hR (hT b) hg hc
      exact ⟨u, by simp only [hv, Sem.run_bind, asAddr, Sem.run_pure, Result.andThen_ok, hrun], hu⟩
theorem resAll_ok (hR : Rel H φ N w) (hT : TRel H φ N w s a) : ∀ {rs : List ResultVar} {xs : List AV}, resAll P H s rs = some xs →
    ∃ us : List Value, (rs.mapM fun r => (match r with | .tmp t => pure (a.tmps.getD t undef) | .cell b t => do loadVar t (← asAddr (a.tmps.getD b undef)) : Sem Value)).run P w = .ok us w ∧ xs.length = us.length ∧ ∀ i (h1 : i < xs.length) (h2 : i < us.length), RA H φ N w (xs[i]) (us[i])
  | [], xs, h => by cases h; exact ⟨[], rfl, rfl, fun i h1 => by simp at h1⟩
  | r :: rs, xs, h => by
    simp only [resAll] at h
    obtain ⟨x, hx, h⟩ := Option.bind_eq_some_iff.1 h
    obtain ⟨ys, hy, rfl⟩ := Option.map_eq_some_iff.1 h
    obtain ⟨u, hu, ru⟩ := resAV_ok hR hT hx
    obtain ⟨us, hus, hl, rus⟩ := resAll_ok hR hT hy
    refine ⟨u :: us, ?_, by simp [hl], fun i h1 h2 => ?_⟩
    · rw [List.mapM_cons, Sem.run_bind, hu]
      simp only [Result.andThen_ok, Sem.run_bind, hus, Sem.run_pure]
    · cases i with
      | zero => exact ru
      | succ i => simpa using rus i (by simpa using h1) (by simpa using h2)
theorem results_run {fn : Func} {us : List Value} {tmps : Array Value} (h : (fn.results.toList.mapM fun r => (match r with | .tmp t => pure (tmps.getD t undef) | .cell b t => do loadVar t (← asAddr (tmps.getD b undef)) : Sem Value)).run P w = .ok us w) :
    (results fn tmps).run P w = .ok (match us with | [u] => u | l => .tuple l.toArray) w := by
  unfold results
  rw [Sem.run_bind, Array.mapM_eq_mapM_toList, Sem.run_map]
  refine (congrArg (fun r => (Result.andThen r fun a w' => Result.ok (List.toArray a) w').andThen fun vs w' => Sem.run P (pure (if h : vs.size = 1 then vs[0] else .tuple vs)) w') (Eq.trans ?_ h)).trans ?_
  · congr 1
  · simp only [Result.andThen_ok, Sem.run_pure]
    match us with
    | [] => rfl
    | [u] => rfl
    | u :: v :: l => simp
theorem ares_many (l : List Tmp) (h : l.length ≠ 1) (s : Nat → AV) : ares l s = .tup (l.map s) := by
  rcases l with _ | ⟨a, _ | ⟨b, l⟩⟩
  · rfl
  · exact absurd rfl h
  · rfl
/-- The contract of a function out of its body, where results may lie in memory. -/
theorem Does.of_awpC {hint : Nat → Bool} {f : FuncId} {fn : Func} {body : Code} (hf : P.funcs[f]? = some fn) (hn : (fn.name == "runtime.NumGoroutine") = false) (hb : fn.body = some body) (rs : List ResultVar) (hr : fn.results.toList = rs)
    {args : List AV} {H : AHeap} {res : ARes} {H' : AHeap} (ha : args.length ≤ fn.ntmps) (h : awp P hint fn.ntmps H body (AEndC P rs H res H') (ainit args) H) : Does P f args H res H' := by
  intro φ N w vals hR hA
  refine .inl ⟨enter_run hf hn (by rw [hb]; rfl) vals w, calls_of_wp hf hb ?_⟩
  have hI : Inv H φ N w fn.ntmps [] (ainit args) H φ N { tmps := vals ++ Array.replicate (fn.ntmps - vals.size) undef, defers := [] } w := by
    refine ⟨hR, fun t => ?_, Since.refl, by simp; have := hA.1; omega, rfl⟩
    simp only [ainit]
    by_cases ht : t < args.length
    · have ht' : t < vals.size := by rw [← hA.1]; exact ht
      have := hA.2 t ht ht'
      have e1 : args.getD t .top = args[t] := by simp [List.getD, ht]
      have e2 : (vals ++ Array.replicate (fn.ntmps - vals.size) undef).getD t undef = vals[t] := by
        rw [Array.getD_eq_getD_getElem?, Array.getElem?_append_left ht']; simp [ht']
      rw [e1, e2]
      exact this
    · have e1 : args.getD t .top = .top := by simp [List.getD, List.getElem?_eq_none (Nat.le_of_not_lt ht)]
      rw [e1]
      exact .top _
  refine wp_mono (awp_ok hR body _ hI h) ?_
  rintro e a' w' ⟨ax, s', H1, φ1, N1, rfl, hq, hI1⟩
  have fin : (∃ avs s'', resAll P H1 s' rs = some avs ∧ Weak H (fun t => avs.getD t .top) H1 s'' H' ∧ res = .ok (ares (List.range avs.length) s'')) → a'.defers = [] ∧ ∃ v, (results fn a'.tmps).run P w' = .ok v w' ∧ ∃ φ' N', Rel H' φ' N' w' ∧ Since H φ N w H' φ' N' w' ∧ REnd H' φ' N' w' res (.returned v) := by
    rintro ⟨avs, s'', hav, hW, rfl⟩
    obtain ⟨us, hus, hl, hru⟩ := resAll_ok hI1.rel hI1.tmps hav
    have hI2 : Inv H φ N w us.length [] (fun t => avs.getD t .top) H1 φ1 N1 { tmps := us.toArray, defers := [] } w' := by
      refine ⟨hI1.rel, fun t => ?_, hI1.since, by simp, rfl⟩
      by_cases ht : t < avs.length
      · have e1 : avs.getD t .top = avs[t] := by simp [List.getD, ht]
        have e2 : (us.toArray : Array Value).getD t undef = us[t]'(by omega) := by
          rw [Array.getD_eq_getD_getElem?]; simp [show t < us.length by omega]
        simp only [e1, e2]
        exact hru t ht (by omega)
      · have e1 : avs.getD t .top = .top := by simp [List.getD, List.getElem?_eq_none (Nat.le_of_not_lt ht)]
        simp only [e1]
        exact .top _
    obtain ⟨φ2, N2, hI3⟩ := hW.ok hR hI2
    refine ⟨hI1.defers, _, results_run (by rw [hr]; exact hus), φ2, N2, hI3.rel, hI3.since, ?_⟩
    have at_ : ∀ t, RA H' φ2 N2 w' (s'' t) ((us.toArray : Array Value).getD t undef) := hI3.tmps
    show RA H' φ2 N2 w' (ares (List.range avs.length) s'') _
    match us, hl with
    | [], hl =>
      have : avs = [] := List.eq_nil_of_length_eq_zero hl
      subst this
      exact .tup _ _ rfl fun i h1 => by simp at h1
    | [u], hl =>
      have : avs.length = 1 := hl
      rw [this]
      exact at_ 0
    | u :: v :: l, hl =>
      have e : ares (List.range avs.length) s'' = .tup ((List.range avs.length).map s'') := by
        exact ares_many _ (by simp [hl]) s''
      rw [e]
      refine .tup _ _ (by simp [hl]) fun i h1 h2 => ?_
      have := at_ i
      rw [Array.getD_eq_getD_getElem?] at this
      simp only [List.size_toArray] at h2
      rw [List.getElem?_toArray, List.getElem?_eq_getElem h2] at this
      simpa using this
  cases ax with
  | normal => exact fin hq
  | ret => exact fin hq
  | exit i => exact hq.elim
  | panic v =>
    obtain ⟨s'', hW, rfl⟩ := hq
    obtain ⟨φ2, N2, hI2⟩ := hW.ok hR hI1
    exact ⟨hI2.defers, φ2, N2, hI2.rel, hI2.since, rfl⟩
theorem AEndC.ret {rs : List ResultVar} {H T : AHeap} {s : Nat → AV} {r : AV} (h : ob (resAll P (H ++ T) s rs) fun avs => r = ares (List.range avs.length) fun t => frz (H ++ T) H.length (avs.getD t .top)) : AEndC P rs H (.ok r) H .ret s (H ++ T) := by
  cases e : resAll P (H ++ T) s rs with
  | none => rw [e] at h; exact h.elim
  | some avs =>
    rw [e] at h
    exact ⟨avs, _, e, Weak.drop H T _, by rw [show r = _ from h]⟩
end
end Go.Proofs.YtkapgooedfompaaGreatAw
namespace Go.Proofs.YtkapgooedfompaaGreatAw
open Go.RowKit
set_option linter.unusedVariables false
set_option linter.unusedSimpArgs false
theorem Rel.freeze {H : AHeap} {φ : Phi} {N : Addr → Prop} {w : World} {id k ver : Nat} {e : TypeId} {es : List (List D)} (hR : Rel H φ N w) (ho : H[id]? = some (.arr e k ver es)) :
    ∃ φ' N', Rel (H.set id (.arr e k (ver + 1) [])) φ' N' w ∧ Since H φ N w (H.set id (.arr e k (ver + 1) [])) φ' N' w ∧
      ∀ off len v, RA H φ N w (.sl id ver off len) v → RA (H.set id (.arr e k (ver + 1) [])) φ' N' w (.d (.list false ((es.drop off).take len))) v := by
  have hid : id < H.length := len_of_get ho
  have hobj := hR.obj id _ ho
  cases hobj with
  | arr _ _ _ _ hk hes hbl =>
  let φ' : Phi := fun j => if j = id then none else φ j
  let N' : Addr → Prop := fun a => N a ∨ ∃ B c, φ id = some (B, c) ∧ a.block = B ∧ a.spot = none ∧ a.off < es.length * k
  have hφ : ∀ j, j ≠ id → φ' j = φ j := fun j hj => if_neg hj
  have hφi : φ' id = none := if_pos rfl
  have hS : Since H φ N w (H.set id (.arr e k (ver + 1) [])) φ' N' w := by
    refine ⟨by simp, rfl, rfl, rfl, Nat.le_refl _, fun _ _ _ => rfl, fun j B c hj hp _ => ?_, fun _ h => .inl h, fun j o hj => ?_⟩
    · by_cases hji : j = id
      · subst hji; rw [hφi] at hp; cases hp
      · rw [hφ j hji] at hp
        exact ⟨j, c, by simpa using hj, hp⟩
    · by_cases hji : j = id
      · subst hji
        rw [ho] at hj; cases hj
        refine ⟨.arr e k (ver + 1) [], by simp [hid], rfl, Nat.le_succ _, fun h => ?_, fun kk es' h => by cases h⟩
        simp only [AObj.ver] at h
        omega
      · refine ⟨o, by rw [List.getElem?_set_ne (Ne.symm hji)]; exact hj, rfl, Nat.le_refl _, fun _ => ⟨hφ j hji, Nat.le_refl _⟩, fun kk es' h => ⟨hφ j hji, es', h⟩⟩
  refine ⟨φ', N', ⟨fun j o hj => ?_, fun i j B c c' hi hj hpi hpj => ?_, fun a ha => ?_, fun a j B c ha hj hp => ?_⟩, hS, fun off len v hv => ?_⟩
  · by_cases hji : j = id
    · subst hji
      simp [hid] at hj
      subst hj
      exact .arr e k (ver + 1) [] hk (fun c hc => by simp at hc) (.inl ⟨hφi, rfl⟩)
    · rw [List.getElem?_set_ne (Ne.symm hji)] at hj
      exact (hR.obj j o hj).keep hR hS (hφ j hji) fun _ _ _ => rfl
  · have hi' : i ≠ id := fun h => by subst h; rw [hφi] at hpi; cases hpi
    have hj' : j ≠ id := fun h => by subst h; rw [hφi] at hpj; cases hpj
    rw [hφ i hi'] at hpi
    rw [hφ j hj'] at hpj
    exact hR.inj i j B c c' (by simpa using hi) (by simpa using hj) hpi hpj
  · rcases ha with ha | ⟨B, c, hB, h1, h2, h3⟩
    · exact hR.live a ha
    · rcases hbl with ⟨g0, _⟩ | ⟨B', cap, cur, g1, g2, g3, g4, g5, g6⟩
      · rw [g0] at hB; cases hB
      · rw [g1] at hB; cases hB
        have hlt : a.off < cur.size := by have := Nat.mul_le_mul_right k g3; omega
        refine ⟨cur[a.off], ?_⟩
        simp [World.cell?, h1, g2, h2, hlt]
  · have hj' : j ≠ id := fun h => by subst h; rw [hφi] at hp; cases hp
    rw [hφ j hj'] at hp
    have hj2 : j < H.length := by simpa using hj
    rcases ha with ha | ⟨B0, c0, hB, h1, _⟩
    · exact hR.apart a j B c ha hj2 hp
    · intro hab
      have : B0 = B := h1.symm.trans hab
      subst this
      exact hj' (hR.inj j id B0 c c0 hj2 hid hp hB)
  · cases hv with
    | sl _ _ _ _ A l m' o ho' hv' hp =>
    rw [ho] at ho'; cases ho'
    obtain ⟨rfl, h1, h2⟩ := hp rfl
    simp only [AObj.len] at h1
    by_cases hl0 : l = 0
    · subst hl0
      simp only [List.take_zero]
      exact .d (.nil _ _ (by rcases h2 with ⟨_, _, _, rfl⟩ | ⟨B, c, _, _, rfl, _⟩; exact fun _ => rfl; exact fun h => by cases h))
    rcases h2 with ⟨_, h3, _⟩ | ⟨B, c, h3, h4, rfl, rfl⟩
    · omega
    rcases hbl with ⟨g0, _⟩ | ⟨B', cap, cur, g1, g2, g3, g4, g5, g6⟩
    · rw [g0] at h3; cases h3
    have hφ3 := h3
    obtain ⟨e1, e2⟩ := Prod.mk.inj (Option.some.inj (g1.symm.trans h3))
    subst e1 e2
    have hel : ((es.drop off).take l).length = l := by simp; omega
    have key := RD.list (N := N') (w := w) false ((es.drop off).take l) ⟨B', off * k, none⟩ (cap - off) k (fun i j => cur.getD ((off + i) * k + j) undef) (by rw [hel]; omega)
      (fun e he => hes e (List.mem_of_mem_drop (List.mem_of_mem_take he))) (fun i j hi hj => by
        rw [hel] at hi
        have hlt : (off + i) * k + j < es.length * k := place_lt hj (by omega)
        have hlt2 : (off + i) * k + j < cur.size := by have := Nat.mul_le_mul_right k g3; omega
        have hpos : off * k + (i * k + j) = (off + i) * k + j := by rw [Nat.add_mul]; omega
        rw [add_plain, hpos]
        refine ⟨.inr ⟨B', cap, hφ3, rfl, rfl, hlt⟩, ?_⟩
        simp [World.cell?, g2, Array.getD, hlt2]) (fun i hi j hj => by
        rw [hel] at hi
        simp only [List.getElem_take, List.getElem_drop] at hj ⊢
        obtain ⟨u, hu, hd⟩ := g6 (off + i) (by omega) j hj
        have hget : cur.getD ((off + i) * k + j) undef = u := by
          rw [Array.getD_eq_getD_getElem?, hu]; rfl
        simp only [hget]
        exact hd.since hR hS)
    rw [hel] at key
    exact .d key
/-- What is handed on never changes again: its owner has an empty array of a later version. -/
theorem Does.freeze {P : Program} {f : FuncId} (pre : List AV) {post : List AV} {id k ver off len : Nat} {e : TypeId} {es : List (List D)} {H H' : AHeap} {res : ARes} (ho : H[id]? = some (.arr e k ver es))
    (h : Does P f (pre ++ .d (.list false ((es.drop off).take len)) :: post) (H.set id (.arr e k (ver + 1) [])) res H') : Does P f (pre ++ .sl id ver off len :: post) H res H' := by
  intro φ N w vals hR hA
  obtain ⟨φ1, N1, hR1, hS1, hv⟩ := hR.freeze ho
  have hA1 : RAs (H.set id (.arr e k (ver + 1) [])) φ1 N1 w (pre ++ .d (.list false ((es.drop off).take len)) :: post) vals := by
    refine ⟨by rw [← hA.1]; simp, fun i h1 h2 => ?_⟩
    have h3 := hA.2 i (by simpa using h1) h2
    by_cases hi : i = pre.length
    · subst hi
      simp only [List.getElem_append_right (Nat.le_refl _), Nat.sub_self, List.getElem_cons_zero] at h3 ⊢
      exact hv off len _ h3
    · rcases Nat.lt_or_ge i pre.length with hlt | hge
      · rw [List.getElem_append_left hlt] at h3 ⊢
        exact h3.since hR hS1
      · rw [List.getElem_append_right hge] at h3 ⊢
        obtain ⟨j, hj⟩ : ∃ j, i - pre.length = j + 1 := ⟨i - pre.length - 1, by omega⟩
        simp only [hj, List.getElem_cons_succ] at h3 ⊢
        exact h3.since hR hS1
  have h4 := h φ1 N1 w vals hR1 hA1
  have go : ∀ e' w', (∃ φ' N', Rel H' φ' N' w' ∧ Since (H.set id (.arr e k (ver + 1) [])) φ1 N1 w H' φ' N' w' ∧ REnd H' φ' N' w' res e') → ∃ φ' N', Rel H' φ' N' w' ∧ Since H φ N w H' φ' N' w' ∧ REnd H' φ' N' w' res e' := by
    rintro e' w' ⟨φ', N', hR', hS', hE⟩
    exact ⟨φ', N', hR', hS1.trans hS', hE⟩
  rcases h4 with ⟨h5, h6⟩ | ⟨v, w', h5, h6⟩
  · exact .inl ⟨h5, h6.mono go⟩
  · exact .inr ⟨v, w', h5, go _ _ h6⟩
theorem KCall.frz {P : Program} {f : FuncId} (pre : List AV) {post : List AV} {id k ver off len : Nat} {e : TypeId} {es : List (List D)} {H H' : AHeap} {K : AV → AHeap → Prop} {KP : Value → AHeap → Prop} {r : AV} (ho : H[id]? = some (.arr e k ver es))
    (h : Does P f (pre ++ .d (.list false ((es.drop off).take len)) :: post) (H.set id (.arr e k (ver + 1) [])) (.ok r) H') (hk : K r H') : KCall P f (pre ++ .sl id ver off len :: post) H K KP := KCall.ok (Does.freeze pre ho h) hk
end Go.Proofs.YtkapgooedfompaaGreatAw
namespace Go.Proofs.YtkapgooedfompaaGreatAw
open Go.RowKit
set_option linter.unusedVariables false
set_option linter.unusedSimpArgs false
/-- The old objects are still there. -/
def Ext (B H : AHeap) : Prop := ∀ (id : Nat) (o : AObj), B[id]? = some o → H[id]? = some o
theorem Ext.refl (B : AHeap) : Ext B B := fun _ _ h => h
theorem Ext.app (B T : AHeap) : Ext B (B ++ T) := fun id o h => by rw [List.getElem?_append_left (len_of_get h)]; exact h
/-- What does not look at the heap at all. -/
def hfree (hint : Bool) : Op → Bool
  | .move _ | .assign _ | .pick .. | .build .. | .field .. | .index .. | .unOp .. | .convert .. | .extract .. => true
  | .makeFunc (.func _) _ _ => true
  | .buildSlice .. => !hint
  | .binOp op _ _ _ _ => (match op with | .eql | .neq => false | _ => true)
  | _ => false
theorem hfree_eq {P : Program} {s : Nat → AV} {H H2 : AHeap} {hint : Bool} {op : Op} {K : AV → AHeap → Prop} (h : hfree hint op = true) : aop P s H hint op K = aop P s H2 hint op fun r _ => K r H := by
  by_cases hb : ∃ o t x y t', op = .binOp o t x y t'
  · obtain ⟨o, t, x, y, t', rfl⟩ := hb
    cases o <;> first | (unfold aop; simp only [nilCmp, Bool.false_and, Bool.false_eq_true, false_and]; done) | (cases h; done)
  cases op <;> first | rfl | cases h | (exact absurd ⟨_, _, _, _, _, rfl⟩ hb) | skip
  · cases hint
    · unfold aop
      rfl
    · cases h
  · rename_i f _ _
    cases f <;> first | rfl | cases h
theorem oread_ext {B H : AHeap} (hE : Ext B H) {id ver i j n : Nat} {cs : List AV} (h : oread B id ver i j n = some cs) : oread H id ver i j n = some cs := by
  unfold oread at h ⊢
  cases hb : B[id]? with
  | none => rw [hb] at h; cases h
  | some o => rw [hE id o hb]; rw [hb] at h; exact h
theorem aread_ext {B H : AHeap} (hE : Ext B H) {n : Nat} {x : AV} {cs : List AV} (h : aread B n x = some cs) : aread H n x = some cs := by
  cases x with
  | ptr id ver i j => exact oread_ext hE h
  | iptr => exact h
  | _ => cases h
def isLoad : Op → Bool
  | .load .. => true
  | .slice _ _ _ _ none => true
  | _ => false
theorem aslice_ext {B H : AHeap} (hE : Ext B H) {k : Nat} {lo : Option Int} {hi : Nat → Option Int} {x : AV} {K : AV → AHeap → Prop} {r : AV} (h : aslice B k lo hi (fun r' _ => r' = r) x) (hk : K r H) : aslice H k lo hi K x := by
  cases x with
  | d u =>
    cases u with
    | v _ => exact h.elim
    | list nn es =>
      simp only [aslice] at h ⊢
      refine ⟨h.1, ?_⟩
      replace h := h.2
      cases lo with
      | none => exact h
      | some l =>
        cases hq : hi es.length with
        | none => rw [hq] at h; exact h
        | some m => rw [hq] at h; exact ⟨h.1, h.2.1, h.2.2.1, by rw [h.2.2.2]; exact hk⟩
  | sl id ver off len =>
    simp only [aslice] at h ⊢
    cases ho : B[id]? with
    | none => rw [ho] at h; exact h.elim
    | some o =>
      rw [ho] at h
      rw [hE id o ho]
      cases lo with
      | none => exact h.elim
      | some l =>
        cases hq : hi len with
        | none => rw [hq] at h; exact h.elim
        | some m => rw [hq] at h; exact ⟨h.1, h.2.1, h.2.2.1, h.2.2.2.1, h.2.2.2.2.1, by rw [h.2.2.2.2.2]; exact hk⟩
  | _ => exact h.elim
theorem load_ext {P : Program} {s : Nat → AV} {B H : AHeap} {hint : Bool} {op : Op} (hl : isLoad op = true) (hE : Ext B H) {K : AV → AHeap → Prop} {r : AV}
    (h : aop P s B hint op fun r' _ => r' = r) (hk : K r H) : aop P s H hint op K := by
  cases op <;> first | cases hl | skip
  rotate_left
  · rename_i t x lo hi mx
    cases mx with
    | some _ => cases hl
    | none =>
    unfold aop at h ⊢
    simp only at h ⊢
    cases he : SE P t with
    | none =>
      rw [he] at h
      obtain ⟨hu, h⟩ := h
      refine ⟨hu, ?_⟩
      split at h
      · rename_i c hc
        split at h
        · rename_i l m hl hm
          first
            | exact ⟨h.1, h.2.1, h.2.2.1, by rw [h.2.2.2]; exact hk⟩
            | (rw [hl, hm]; exact ⟨h.1, h.2.1, h.2.2.1, by rw [h.2.2.2]; exact hk⟩)
        · exact h.elim
      · exact h.elim
    | some e =>
      rw [he] at h
      simp only at h ⊢
      cases hi2 : TI P e with
      | none => rw [hi2] at h; exact h
      | some z =>
        rw [hi2] at h
        obtain ⟨z, k, b⟩ := z
        exact aslice_ext hE h hk
  rename_i t x
  unfold aop at h ⊢
  simp only at h ⊢
  cases hg : agB P t with
  | none => rw [hg] at h; exact h
  | some b =>
    rw [hg] at h
    cases b with
    | true =>
      simp only at h ⊢
      split at h
      · split at h
        · rename_i cs hr
          rw [aread_ext hE hr]
          subst h
          exact hk
        · exact h.elim
      · exact h.elim
    | false =>
      simp only at h ⊢
      split at h
      · rename_i c hr
        rw [aread_ext hE hr]
        subst h
        exact hk
      · exact h.elim
/-- May float: the heap's changes do not concern it. -/
def floats (hint : Nat → Bool) (first : Bool) (o : Oper) : Bool := hfree (match o.dst with | some d => hint d | none => false) o.op || (first && isLoad o.op)
section
variable (P : Program) (hint : Nat → Bool) (n : Nat) (ops : Array Oper)
def StepT (H : AHeap) (s : Nat → AV) (o : Oper) (r : AV) (H' : AHeap) : Prop := match o.guard with
  | none => ∀ K KP, K r H' → astep P hint s H o K KP
  | some (j, want) => ∃ b, ayield ops s n j want = some b ∧ if b = true then ∀ K KP, K r H' → astep P hint s H o K KP else r = .tup [] ∧ H' = H
end
section
variable {P : Program} {hint : Nat → Bool} {n : Nat} {ops : Array Oper} {Q : Post}
theorem StepT.op {H H' : AHeap} {s : Nat → AV} {o : Oper} {r : AV} (h : StepT P hint n ops H s o r H') {K : (Nat → AV) → AHeap → Prop} (hk : K (aput n s o.dst r) H') : awpOp P hint n ops Q o K s H := by
  unfold StepT at h
  unfold awpOp
  split at h
  · rename_i hg
    simp only [hg]
    exact h (fun r H' => K (aput n s o.dst r) H') _ hk
  · rename_i j want hg
    obtain ⟨b, hb, h⟩ := h
    simp only [hg, hb]
    split at h
    · rw [if_pos (by assumption)]; exact h (fun r H' => K (aput n s o.dst r) H') _ hk
    · rw [if_neg (by assumption)]; rw [h.1, h.2] at hk; exact hk
theorem StepT.congr {H H' : AHeap} {s s' : Nat → AV} {o : Oper} {r : AV} (h : StepT P hint n ops H s o r H') (h1 : ∀ t ∈ opTmps o, s t = s' t) (h2 : ∀ j w, o.guard = some (j, w) → ∀ d, dstAt ops j = some d → s d = s' d) : StepT P hint n ops H s' o r H' := by
  unfold StepT at h ⊢
  split at h
  · rename_i hg
    try simp only [hg]
    intro K KP hk
    rw [← astep_congr h1]
    exact h K KP hk
  · rename_i j want hg
    try simp only [hg]
    obtain ⟨b, hb, h⟩ := h
    refine ⟨b, ?_, ?_⟩
    · rw [← hb]
      unfold ayield
      have := h2 j want hg
      unfold dstAt at this
      cases hd : (ops[j]?).bind (·.dst) with
      | none => rfl
      | some d => simp only [this d hd]
    · split at h
      · rw [if_pos (by assumption)]
        intro K KP hk
        rw [← astep_congr h1]
        exact h K KP hk
      · rw [if_neg (by assumption)]; exact h
theorem awpAny_mix (hc : PureOk ops) (m : Nat) (hm : m ≤ ops.size) (htl : ∀ i o, ops[i]? = some o → (i = m → ∀ j, j < m → reachB ops 12 i j = true) ∧ (m < i → bindsOn o (i - 1) = true)) (s : Nat → AV) (rs : Nat → AV) (hp : Nat → AHeap) (ch : Nat → Bool)
    (hch : ∀ c c', c < c' → c' < m → ch c = true → ch c' = true → reachB ops 12 c' c = true) (hfr : ∀ i, i < m → ch i = false → hp (i + 1) = hp i)
    (hst : ∀ i o, i < m → ops[i]? = some o → ch i = true → StepT P hint n ops (hp i) (stAt n ops s rs i) o (rs i) (hp (i + 1)))
    (hsf : ∀ i o, i < m → ops[i]? = some o → ch i = false → ∀ j, j ≤ m → (∀ c, c < j → ch c = true → reachB ops 12 c i = false) → StepT P hint n ops (hp j) (stAt n ops s rs i) o (rs i) (hp j))
    (hQ : awpList P hint n ops Q (ops.toList.drop m) (stAt n ops s rs m) (hp m)) :
    ∀ (fuel : Nat) (listed : Array Bool) (s' : Nat → AV) (H : AHeap), listed.size = ops.size → (List.range ops.size).countP (fun j => !listed.getD j true) ≤ fuel →
      (∀ t j, dstAt ops j = some t → s' t = if listed.getD j false = true then (if t < n then rs j else .top) else s t) → (∀ t, (∀ j, dstAt ops j ≠ some t) → s' t = s t) →
      (∀ j oj i, ops[j]? = some oj → listed.getD j false = true → bindsOn oj i = true → listed.getD i false = true) → (∀ i, m ≤ i → i < ops.size → listed.getD i false = false) →
      (∃ q, q ≤ m ∧ H = hp q ∧ ∀ c, c < m → ch c = true → (listed.getD c false = true ↔ c < q)) → awpAny P hint n ops Q fuel listed s' H := by
  have hsame : ∀ d q, q + d ≤ m → (∀ c, c < m → ch c = true → (c < q ↔ c < q + d)) → hp (q + d) = hp q := by
    intro d
    induction d with
    | zero => intros; rfl
    | succ d ihd =>
      intro q hq hcc
      have h1 : ch (q + d) = false := by
        cases h : ch (q + d) with
        | false => rfl
        | true => have := (hcc (q + d) (by omega) h).2 (by omega); omega
      rw [← Nat.add_assoc, hfr (q + d) (by omega) h1]
      refine ihd q (by omega) fun c hcm hct => ⟨fun h => by omega, fun h => (hcc c hcm hct).2 (by omega)⟩
  have hsame2 : ∀ q i, q ≤ m → i ≤ m → (∀ c, c < m → ch c = true → (c < q ↔ c < i)) → hp q = hp i := by
    intro q i hq hi hcc
    rcases Nat.le_total q i with h | h
    · obtain ⟨d, rfl⟩ := Nat.exists_eq_add_of_le h
      exact (hsame d q hi hcc).symm
    · obtain ⟨d, rfl⟩ := Nat.exists_eq_add_of_le h
      exact hsame d i hq fun c hcm hct => (hcc c hcm hct).symm
  have st_no : ∀ k t, (∀ j, j < k → dstAt ops j ≠ some t) → stAt n ops s rs k t = s t := by
    intro k t
    induction k with
    | zero => intro _; rfl
    | succ k ih =>
      intro h
      simp only [stAt]
      cases hd : dstAt ops k with
      | none => exact ih fun j hj => h j (by omega)
      | some d =>
        simp only [aput]
        have : t ≠ d := fun e => h k (by omega) (by rw [hd, e])
        rw [if_neg this]
        exact ih fun j hj => h j (by omega)
  have st_dst : ∀ k t j, dstAt ops j = some t → j < k → stAt n ops s rs k t = if t < n then rs j else .top := by
    intro k t j hj
    induction k with
    | zero => intro h; omega
    | succ k ih =>
      intro h
      simp only [stAt]
      by_cases e : j = k
      · subst e
        rw [hj]
        simp only [aput, if_pos]
      · have := ih (by omega)
        cases hd : dstAt ops k with
        | none => exact this
        | some d =>
          simp only [aput]
          have hne : t ≠ d := fun e' => e (hc.once j k t hj (by rw [hd, e']))
          rw [if_neg hne]
          exact this
  have bind_of : ∀ (listed : Array Bool) (o : Oper) (j : Nat), (o.after.all fun e => !Region.binds .any e || listed.getD e.on false) = true → bindsOn o j = true → listed.getD j false = true := by
    intro listed o j h1 h2
    unfold bindsOn at h2
    rw [List.any_eq_true] at h2
    obtain ⟨e, he, h2⟩ := h2
    rw [Array.all_eq_true_iff_forall_mem] at h1
    have := h1 e (Array.mem_toList_iff.1 he)
    simp only [Bool.and_eq_true, beq_iff_eq] at h2
    simpa [h2.1, h2.2] using this
  have fin : ∀ (listed : Array Bool) (s' : Nat → AV), (∀ i, i < m → listed.getD i true = true) → (∀ i, m ≤ i → i < ops.size → listed.getD i false = false) → listed.size = ops.size →
      (∀ t j, dstAt ops j = some t → s' t = if listed.getD j false = true then (if t < n then rs j else .top) else s t) → (∀ t, (∀ j, dstAt ops j ≠ some t) → s' t = s t) → s' = stAt n ops s rs m := by
    intro listed s' hall hno hsz h1 h2
    funext t
    by_cases hd : ∃ j, dstAt ops j = some t
    · obtain ⟨j, hj⟩ := hd
      have hjl := dstAt_lt hj
      rcases Nat.lt_or_ge j m with hjm | hjm
      · have : listed.getD j false = true := by
          have := hall j hjm
          simpa [Array.getD, show j < listed.size by omega] using this
        rw [h1 t j hj, if_pos this, st_dst _ t j hj hjm]
      · rw [h1 t j hj, if_neg (by simp [hno j hjm hjl]), st_no m t fun j' hj' hd' => by
          have := hc.once j' j t hd' hj
          omega]
    · have hd' : ∀ j, dstAt ops j ≠ some t := fun j hj => hd ⟨j, hj⟩
      rw [h2 t hd', st_no _ t fun j _ => hd' j]
  intro fuel
  induction fuel with
  | zero =>
    intro listed s' H hsz hcnt h1 h2 hcl hno hq
    have hall : ∀ i, i < ops.size → listed.getD i true = true := by
      intro i hi
      have h0 : (List.range ops.size).countP (fun j => !listed.getD j true) = 0 := by omega
      rw [List.countP_eq_zero] at h0
      simpa using h0 i (List.mem_range.2 hi)
    have hs' := fin listed s' (fun i hi => hall i (by omega)) hno hsz h1 h2
    have hH : H = hp m := by
      obtain ⟨q, hqm, rfl, hql⟩ := hq
      refine hsame2 q m hqm (Nat.le_refl _) fun c hcm hct => ⟨fun _ => hcm, fun _ => (hql c hcm hct).1 ?_⟩
      have := hall c (by omega)
      simpa [Array.getD, show c < listed.size by omega] using this
    subst hs'
    subst hH
    exact awpAny_chain hc (fun i o ho hi => (htl i o ho).2 hi) hsz m (Nat.le_refl _) hm (fun i hi => hall i (by omega)) (fun i hi hi2 => hno i hi hi2) hQ (by
      rcases Nat.lt_or_ge m ops.size with h | h
      · have e1 := hall m h
        have e2 := hno m (Nat.le_refl _) h
        simp [Array.getD, show m < listed.size by omega] at e1 e2
        rw [e1] at e2
        cases e2
      · omega)
  | succ fuel ih =>
    intro listed s' H hsz hcnt h1 h2 hcl hno hq
    by_cases hpre : ∀ i, i < m → listed.getD i true = true
    · have hs' := fin listed s' hpre hno hsz h1 h2
      have hH : H = hp m := by
        obtain ⟨q, hqm, rfl, hql⟩ := hq
        refine hsame2 q m hqm (Nat.le_refl _) fun c hcm hct => ⟨fun _ => hcm, fun _ => (hql c hcm hct).1 ?_⟩
        have := hpre c hcm
        simpa [Array.getD, show c < listed.size by omega] using this
      subst hs'
      subst hH
      refine awpAny_chain hc (fun i o ho hi => (htl i o ho).2 hi) hsz m (Nat.le_refl _) hm hpre hno hQ ?_
      have hsub : (List.range ops.size).countP (fun j => decide (m ≤ j)) ≤ (List.range ops.size).countP (fun j => !listed.getD j true) := by
        refine List.countP_mono_left fun j hj hmj => ?_
        have hj := List.mem_range.1 hj
        have := hno j (by simpa using hmj) hj
        simp [Array.getD, show j < listed.size by omega] at this ⊢
        exact this
      have hcm : ∀ N, m ≤ N → (List.range N).countP (fun j => decide (m ≤ j)) = N - m := by
        intro N hN
        induction N with
        | zero => simp
        | succ N ihN =>
          rw [List.range_succ, List.countP_append, List.countP_singleton]
          by_cases e : m ≤ N
          · rw [ihN e]; simp [e]; omega
          · have e' : m = N + 1 := by omega
            have : (List.range N).countP (fun j => decide (m ≤ j)) = 0 := by
              rw [List.countP_eq_zero]
              intro j hj
              have := List.mem_range.1 hj
              simp; omega
            rw [this]; simp [e]; omega
      rw [hcm _ hm] at hsub
      omega
    have hex : ∃ i, i < m ∧ listed.getD i true = false ∧ ∀ j, j < i → listed.getD j true = true := by
      have : ∃ i, i < m ∧ listed.getD i true = false := by
        rcases Classical.not_forall.1 hpre with ⟨i, hi⟩
        rcases Classical.not_imp.1 hi with ⟨h1, h2⟩
        exact ⟨i, h1, by simpa using h2⟩
      obtain ⟨i, hi⟩ := this
      induction i using Nat.strongRecOn with
      | _ i ihi =>
        by_cases hj : ∃ j, j < i ∧ listed.getD j true = false
        · obtain ⟨j, hj1, hj2⟩ := hj
          exact ihi j hj1 ⟨by omega, hj2⟩
        · refine ⟨i, hi.1, hi.2, fun j hji => ?_⟩
          cases hq : listed.getD j true with
          | true => rfl
          | false => exact absurd ⟨j, hji, hq⟩ hj
    obtain ⟨i0, hi0, hu0, hb0⟩ := hex
    refine ⟨fun hr => ?_, fun i hi => ?_⟩
    · exfalso
      have hlt0 : i0 < ops.size := by omega
      have hget : ops[i0]? = some ops[i0] := by simp [hlt0]
      have : i0 ∈ Region.ready .any ops listed := by
        unfold Region.ready
        rw [List.mem_filter]
        refine ⟨List.mem_range.2 hlt0, ?_⟩
        simp only [hu0, hget, Bool.not_false, Bool.true_and, Option.map_some, Option.getD_some]
        rw [Array.all_eq_true_iff_forall_mem]
        intro e he
        cases hbe : Region.binds .any e
        · simp
        have hlt := hc.down i0 _ hget e he hbe
        have := hb0 e.on hlt
        have : listed.getD e.on false = true := by simpa [Array.getD, show e.on < listed.size by omega] using this
        simp [this]
      rw [hr] at this
      simp at this
    · unfold Region.ready at hi
      rw [List.mem_filter] at hi
      obtain ⟨hi, hrd⟩ := hi
      have hi := List.mem_range.1 hi
      have hget : ops[i]? = some ops[i] := by simp [hi]
      simp only [hget, Option.map_some, Option.getD_some, Bool.and_eq_true, Bool.not_eq_true'] at hrd
      obtain ⟨hun, haft⟩ := hrd
      simp only [hget]
      have hdst : dstAt ops i = (ops[i]).dst := by simp [dstAt, hget]
      have hun' : listed.getD i false = false := by simpa [Array.getD, show i < listed.size by omega] using hun
      have him : i < m := by
        rcases Nat.lt_or_ge i m with h | h
        · exact h
        · exfalso
          have hu0' : listed.getD i0 false = false := by simpa [Array.getD, show i0 < listed.size by omega] using hu0
          rcases Nat.lt_or_ge m i with h2 | h2
          · have := bind_of listed ops[i] (i - 1) haft ((htl i _ hget).2 h2)
            rw [hno (i - 1) (by omega) (by omega)] at this
            cases this
          · have him : i = m := by omega
            have := reachB_listed hcl 12 i _ hget (fun j hj => bind_of listed ops[i] j haft hj) i0 ((htl i _ hget).1 him i0 hi0)
            rw [this] at hu0'
            cases hu0'
      have agree : ∀ t j, dstAt ops j = some t → bindsOn ops[i] j = true → stAt n ops s rs i t = s' t := by
        intro t j hj hb
        have hl := bind_of listed ops[i] j haft hb
        have hlt : j < i := by
          unfold bindsOn at hb
          rw [List.any_eq_true] at hb
          obtain ⟨e, he, hb⟩ := hb
          simp only [Bool.and_eq_true, beq_iff_eq] at hb
          have := hc.down i _ hget e (Array.mem_toList_iff.1 he) hb.1
          omega
        rw [st_dst i t j hj hlt, h1 t j hj, if_pos hl]
      have hrd : ∀ t ∈ opTmps ops[i], stAt n ops s rs i t = s' t := by
        intro t ht
        by_cases hd : ∃ j, dstAt ops j = some t
        · obtain ⟨j, hj⟩ := hd
          rcases hc.reads i _ hget t ht j hj with hb | ⟨oj, hoj, hb⟩
          · exact agree t j hj hb
          · have hnl : listed.getD j false = false := by
              cases hq : listed.getD j false with
              | false => rfl
              | true => rw [hcl j oj i hoj hq hb] at hun'; cases hun'
            have hlt : i < j := by
              unfold bindsOn at hb
              rw [List.any_eq_true] at hb
              obtain ⟨e, he, hb⟩ := hb
              simp only [Bool.and_eq_true, beq_iff_eq] at hb
              have := hc.down j _ hoj e (Array.mem_toList_iff.1 he) hb.1
              omega
            rw [h1 t j hj, if_neg (by simp [hnl]), st_no i t fun j' hj' hd' => by
              have := hc.once j' j t hd' hj
              omega]
        · have hd' : ∀ j, dstAt ops j ≠ some t := fun j hj => hd ⟨j, hj⟩
          rw [st_no i t fun j _ => hd' j, h2 t hd']
      have hgd : ∀ j w, (ops[i]).guard = some (j, w) → ∀ d, dstAt ops j = some d → stAt n ops s rs i d = s' d := fun j w hg d hd => agree d j hd (hc.guard i _ hget j w hg)
      have hset : ∀ j b, (listed.setIfInBounds i true).getD j b = if j = i then true else listed.getD j b := by
        intro j b
        simp only [Array.getD_eq_getD_getElem?, Array.getElem?_setIfInBounds]
        by_cases e : i = j
        · subst e; simp [hsz, hi]
        · rw [if_neg e, if_neg (Ne.symm e)]
      obtain ⟨q, hqm, rfl, hql⟩ := hq
      have go : ∀ H2, (∃ q, q ≤ m ∧ H2 = hp q ∧ ∀ c, c < m → ch c = true → ((listed.setIfInBounds i true).getD c false = true ↔ c < q)) → awpAny P hint n ops Q fuel (listed.setIfInBounds i true) (aput n s' (ops[i]).dst (rs i)) H2 := by
        intro H2 hq2
        refine ih _ _ _ (by simpa using hsz) ?_ ?_ ?_ ?_ ?_ hq2
        · have := countP_lt (p := fun j => !(listed.setIfInBounds i true).getD j true) (q := fun j => !listed.getD j true) (i := i) (fun j hj => by
            simp only [hset] at hj ⊢
            by_cases e : j = i
            · simp [e] at hj
            · simpa [e] using hj) (by simp [hset]) (by simp [hun]) (List.range ops.size) (List.mem_range.2 hi)
          omega
        · intro t j hj
          rw [hset]
          by_cases e : j = i
          · subst e
            rw [hdst] at hj
            rw [if_pos rfl, if_pos rfl, hj]
            simp only [aput, if_pos]
          · rw [if_neg e]
            cases hd : (ops[i]).dst with
            | none => exact h1 t j hj
            | some d =>
              simp only [aput]
              have : t ≠ d := fun e' => e (hc.once j i t hj (by rw [hdst, hd, e']))
              rw [if_neg this]
              exact h1 t j hj
        · intro t ht
          cases hd : (ops[i]).dst with
          | none => exact h2 t ht
          | some d =>
            simp only [aput]
            have : t ≠ d := fun e' => ht i (by rw [hdst, hd, e'])
            rw [if_neg this]
            exact h2 t ht
        · intro j oj i' hoj hlj hb
          rw [hset] at hlj ⊢
          by_cases e' : i' = i
          · rw [if_pos e']
          · rw [if_neg e']
            by_cases e : j = i
            · subst e
              rw [hget] at hoj
              cases hoj
              exact bind_of listed _ i' haft hb
            · rw [if_neg e] at hlj
              exact hcl j oj i' hoj hlj hb
        · intro j hj hj2
          rw [hset, if_neg (by omega)]
          exact hno j hj hj2
      cases hci : ch i with
      | false =>
        have hnr : ∀ c, c < q → ch c = true → reachB ops 12 c i = false := fun c hcq hct => by
          cases hr : reachB ops 12 c i with
          | false => rfl
          | true =>
            exfalso
            have hgc : ops[c]? = some ops[c] := by simp [show c < ops.size by omega]
            have hl := (hql c (by omega) hct).2 hcq
            have := reachB_listed hcl 12 c _ hgc (fun j hj => hcl c _ j hgc hl hj) i hr
            rw [hun'] at this
            cases this
        refine StepT.op ((hsf i _ him hget hci q hqm hnr).congr hrd hgd) (go _ ⟨q, hqm, rfl, fun c hcm hct => ?_⟩)
        rw [hset, if_neg (by intro e; rw [e, hci] at hct; cases hct)]
        exact hql c hcm hct
      | true =>
        have hbef : ∀ c, c < m → ch c = true → (listed.getD c false = true ↔ c < i) := by
          intro c hcm hct
          refine ⟨fun hl => ?_, fun hlt => ?_⟩
          · rcases Nat.lt_trichotomy c i with h | h | h
            · exact h
            · subst h; rw [hun'] at hl; cases hl
            · exfalso
              have hcs : c < ops.size := by omega
              have hgc : ops[c]? = some ops[c] := by simp [hcs]
              have := reachB_listed hcl 12 c _ hgc (fun j hj => hcl c _ j hgc hl hj) i (hch i c h hcm hci hct)
              rw [hun'] at this
              cases this
          · exact reachB_listed hcl 12 i _ hget (fun j hj => bind_of listed ops[i] j haft hj) c (hch c i hlt him hct hci)
        have hqi : hp q = hp i := hsame2 q i hqm (by omega) fun c hcm hct => (hql c hcm hct).symm.trans (hbef c hcm hct)
        rw [hqi]
        refine StepT.op ((hst i _ him hget hci).congr hrd hgd) (go _ ⟨i + 1, by omega, rfl, fun c hcm hct => ?_⟩)
        rw [hset]
        by_cases e : c = i
        · subst e; simp
        · rw [if_neg e]
          refine (hbef c hcm hct).trans ⟨fun h => by omega, fun h => by omega⟩
end
section
variable (P : Program) (hint : Nat → Bool) (n : Nat) (ops : Array Oper)
/-- The region in the order of its text; where a mark says so, an operation may change the heap, but for the old objects. -/
def awpMix (B : AHeap) (Q : Post) : List Bool → List Oper → (Nat → AV) → AHeap → Prop
  | [], l, s, H => awpList P hint n ops Q l s H
  | _ :: _, [], s, H => awpList P hint n ops Q [] s H
  | true :: bs, o :: rest, s, H => awpOp P hint n ops (fun _ _ _ => False) o (fun s' H' => Ext B H' ∧ awpMix B Q bs rest s' H') s H
  | false :: bs, o :: rest, s, H => awpOp P hint n ops (fun _ _ _ => False) o (fun s' H' => H' = H ∧ awpMix B Q bs rest s' H') s H
end
section
variable {P : Program} {hint : Nat → Bool} {n : Nat} {ops : Array Oper} {Q : Post}
theorem step_of {o : Oper} (hdt : detOp o.op = true) {s : Nat → AV} {H : AHeap} {K : (Nat → AV) → AHeap → Prop} (h : awpOp P hint n ops (fun _ _ _ => False) o K s H) : ∃ r H', StepT P hint n ops H s o r H' ∧ K (aput n s o.dst r) H' := by
  unfold awpOp at h
  split at h
  · rename_i hg
    obtain ⟨r, H', hr, hdet⟩ := astep_det hdt h
    exact ⟨r, H', by unfold StepT; simp only [hg]; exact fun K KP hk => hdet K KP hk, hr⟩
  · rename_i j want hg
    split at h
    · rename_i b hb
      split at h
      · rename_i hbw
        obtain ⟨r, H', hr, hdet⟩ := astep_det hdt h
        exact ⟨r, H', by unfold StepT; simp only [hg]; exact ⟨b, hb, by rw [if_pos hbw]; exact fun K KP hk => hdet K KP hk⟩, hr⟩
      · rename_i hbw
        exact ⟨.tup [], H, by unfold StepT; simp only [hg]; exact ⟨b, hb, by simp [hbw]⟩, h⟩
    · exact h.elim
theorem awpMix_steps {B : AHeap} (hdt : ∀ (i : Nat) (o : Oper), ops[i]? = some o → detOp o.op = true) (s0 : Nat → AV) : ∀ (bs : List Bool) (k : Nat) (rs0 : Nat → AV) (hp0 : Nat → AHeap), k + bs.length ≤ ops.size → awpMix P hint n ops B Q bs (ops.toList.drop k) (stAt n ops s0 rs0 k) (hp0 k) →
    ∃ (rs : Nat → AV) (hp : Nat → AHeap), (∀ i, i < k → rs i = rs0 i) ∧ (∀ i, i ≤ k → hp i = hp0 i) ∧
      (∀ i o, k ≤ i → i < k + bs.length → ops[i]? = some o → (bs[i - k]? = some true → StepT P hint n ops (hp i) (stAt n ops s0 rs i) o (rs i) (hp (i + 1)) ∧ Ext B (hp (i + 1))) ∧
        (bs[i - k]? = some false → StepT P hint n ops (hp i) (stAt n ops s0 rs i) o (rs i) (hp i) ∧ hp (i + 1) = hp i)) ∧
      awpList P hint n ops Q (ops.toList.drop (k + bs.length)) (stAt n ops s0 rs (k + bs.length)) (hp (k + bs.length))
  | [], k, rs0, hp0, hk, h => ⟨rs0, hp0, fun _ _ => rfl, fun _ _ => rfl, fun i o h1 h2 => by simp at h2; omega, by
      have h : awpList P hint n ops Q (ops.toList.drop k) (stAt n ops s0 rs0 k) (hp0 k) := by
        cases hd : ops.toList.drop k <;> (rw [hd] at h; exact h)
      exact h⟩
  | b :: bs, k, rs0, hp0, hk, h => by
    simp only [List.length_cons] at hk
    have hlt : k < ops.size := by omega
    have hget : ops[k]? = some ops[k] := by simp [hlt]
    have hd : ops.toList.drop k = ops[k] :: ops.toList.drop (k + 1) := by
      rw [List.drop_eq_getElem_cons (by simpa using hlt)]; simp
    rw [hd] at h
    have hdst : dstAt ops k = (ops[k]).dst := by simp [dstAt, hget]
    have step : ∃ r H', StepT P hint n ops (hp0 k) (stAt n ops s0 rs0 k) ops[k] r H' ∧ (b = true → Ext B H') ∧ (b = false → H' = hp0 k) ∧ awpMix P hint n ops B Q bs (ops.toList.drop (k + 1)) (aput n (stAt n ops s0 rs0 k) (ops[k]).dst r) H' := by
      cases b with
      | true =>
        obtain ⟨r, H', h1, h2, h3⟩ := step_of (hdt k _ hget) h
        exact ⟨r, H', h1, fun _ => h2, fun e => (by cases e), h3⟩
      | false =>
        obtain ⟨r, H', h1, rfl, h3⟩ := step_of (hdt k _ hget) h
        exact ⟨r, _, h1, fun e => (by cases e), fun _ => rfl, h3⟩
    obtain ⟨r, H', h1, h2, h3, h4⟩ := step
    let rs1 : Nat → AV := fun i => if i = k then r else rs0 i
    let hp1 : Nat → AHeap := fun i => if i = k + 1 then H' else hp0 i
    have e1 : rs1 k = r := if_pos rfl
    have e2 : hp1 (k + 1) = H' := if_pos rfl
    have hst : ∀ (rs : Nat → AV) i, i ≤ k → (∀ j, j < i → rs j = rs0 j) → stAt n ops s0 rs i = stAt n ops s0 rs0 i := by
      intro rs i
      induction i with
      | zero => intros; rfl
      | succ i ih =>
        intro hi hr
        simp only [stAt, ih (by omega) fun j hj => hr j (by omega), hr i (by omega)]
    have h5 : awpMix P hint n ops B Q bs (ops.toList.drop (k + 1)) (stAt n ops s0 rs1 (k + 1)) (hp1 (k + 1)) := by
      rw [e2]
      simp only [stAt, e1, hdst]
      rw [hst rs1 k (Nat.le_refl _) fun j hj => if_neg (by omega)]
      exact h4
    obtain ⟨rs, hp, g1, g2, g3, g4⟩ := awpMix_steps hdt s0 bs (k + 1) rs1 hp1 (by omega) h5
    have f1 : ∀ i, i < k → rs i = rs0 i := fun i hi => by rw [g1 i (by omega)]; exact if_neg (by omega)
    have f2 : ∀ i, i ≤ k → hp i = hp0 i := fun i hi => by rw [g2 i (by omega)]; exact if_neg (by omega)
    have f3 : rs k = r := by rw [g1 k (by omega)]; exact e1
    have f4 : hp (k + 1) = H' := by rw [g2 (k + 1) (by omega)]; exact e2
    refine ⟨rs, hp, f1, f2, fun i o hi hi2 ho => ?_, by rw [List.length_cons, show k + (bs.length + 1) = k + 1 + bs.length from by omega]; exact g4⟩
    rcases Nat.lt_or_ge k i with hki | hki
    · have := g3 i o hki (by simp only [List.length_cons] at hi2; omega) ho
      rw [show i - k = (i - (k + 1)) + 1 from by omega, List.getElem?_cons_succ]
      exact this
    · obtain rfl : i = k := by omega
      rw [hget] at ho
      cases ho
      rw [Nat.sub_self, List.getElem?_cons_zero, f2 i (Nat.le_refl _), f3, f4, hst rs i (Nat.le_refl _) fun j hj => f1 j hj]
      refine ⟨fun e => ?_, fun e => ?_⟩
      · exact ⟨h1, h2 (Option.some.inj e)⟩
      · have := h3 (Option.some.inj e)
        subst this
        exact ⟨h1, rfl⟩
theorem astep_aop {o : Oper} {s : Nat → AV} {H : AHeap} {K : AV → AHeap → Prop} {KP : Value → AHeap → Prop} (h1 : ∀ x, o.op ≠ .panic x) (h2 : ∀ c, o.op ≠ .call c) : astep P hint s H o K KP = aop P s H (match o.dst with | some d => hint d | none => false) o.op K := by
  unfold astep
  split
  · rename_i x hx; exact absurd hx (h1 x)
  · rename_i c hx; exact absurd hx (h2 c)
  · rfl
theorem floats_step {o : Oper} {s : Nat → AV} {B H H2 : AHeap} {r : AV} {first : Bool} (hf : floats hint first o = true) (hE : first = true → Ext H H2) (h : ∀ K KP, K r H → astep P hint s H o K KP) : ∀ K KP, K r H2 → astep P hint s H2 o K KP := by
  intro K KP hk
  have h0 := h (fun r' _ => r' = r) (fun _ _ => False) rfl
  unfold floats at hf
  rw [Bool.or_eq_true] at hf
  rcases hf with hf | hf
  · have n1 : ∀ x, o.op ≠ .panic x := fun x e => by rw [e] at hf; cases hf
    have n2 : ∀ c, o.op ≠ .call c := fun x e => by rw [e] at hf; cases hf
    rw [astep_aop n1 n2] at h0 ⊢
    rw [hfree_eq (H := H2) (H2 := H) hf]
    exact aop_mono (fun r' _ e => by rw [e]; exact hk) h0
  · rw [Bool.and_eq_true] at hf
    have n1 : ∀ x, o.op ≠ .panic x := fun x e => by rw [e] at hf; cases hf.2
    have n2 : ∀ c, o.op ≠ .call c := fun x e => by rw [e] at hf; cases hf.2
    rw [astep_aop n1 n2] at h0 ⊢
    exact load_ext hf.2 (hE hf.1) h0 hk
theorem floats_stepT {o : Oper} {s : Nat → AV} {H H2 : AHeap} {r : AV} {first : Bool} (hf : floats hint first o = true) (hE : first = true → Ext H H2) (h : StepT P hint n ops H s o r H) : StepT P hint n ops H2 s o r H2 := by
  unfold StepT at h ⊢
  split at h
  · rename_i hg
    try simp only [hg]
    exact floats_step (B := H) hf hE h
  · rename_i j want hg
    try simp only []
    obtain ⟨b, hb, h⟩ := h
    refine ⟨b, hb, ?_⟩
    split at h
    · rw [if_pos (by assumption)]; exact floats_step (B := H) hf hE h
    · rw [if_neg (by assumption)]; simp [h.1]
end
def mixCheck (hint : Nat → Bool) (ops : Array Oper) (bs : List Bool) : Bool := (List.range bs.length).all fun i => match bs[i]?, ops[i]? with
  | some false, some o => floats hint ((bs.take i).all (!·)) o
  | some true, some _ => (List.range i).all fun c => bs[c]? == some false || reachB ops 12 i c
  | _, _ => false
section
variable {P : Program} {hint : Nat → Bool} {n : Nat} {ops : Array Oper} {Q : Post}
/-- A drawn region some of whose marked operations, all bound one behind the other, change the heap. -/
theorem awp_drawM (bs : List Bool) {H0 H : AHeap} {id : Nat} {s : Nat → AV} (hm : P.follows .mixedOrders = true) (hc : pureCheck ops = true) (ht : tailCheck ops bs.length = true) (hx : mixCheck hint ops bs = true)
    (h : awpMix P hint n ops H Q bs ops.toList s H) : awp P hint n H0 (.region id ops true) Q s H := by
  obtain ⟨hms, htl⟩ := tailCheck_ok ht
  refine ⟨hm, ?_⟩
  obtain ⟨rs, hp, _, g2, g3, g4⟩ := awpMix_steps (pureCheck_ok hc).det s bs 0 (fun _ => .top) (fun _ => H) (by omega) h
  have g20 : hp 0 = H := g2 0 (Nat.le_refl _)
  simp only [Nat.zero_add, Nat.sub_zero, Nat.zero_le, true_implies] at g3 g4
  unfold mixCheck at hx
  rw [List.all_eq_true] at hx
  have hget : ∀ i, i < bs.length → ∃ o, ops[i]? = some o := fun i hi => ⟨ops[i]'(by omega), by simp [show i < ops.size by omega]⟩
  have hbs : ∀ i (hi : i < bs.length), bs[i]? = some bs[i] := fun i hi => List.getElem?_eq_getElem hi
  have hext : ∀ j, j ≤ bs.length → Ext H (hp j) := by
    intro j
    induction j with
    | zero => intro _; rw [g20]; exact Ext.refl H
    | succ j ihj =>
      intro hj
      obtain ⟨o, ho⟩ := hget j (by omega)
      have g := g3 j o (by omega) ho
      have hb := hbs j (by omega)
      cases hbj : bs[j]'(by omega) with
      | true => rw [hbj] at hb; exact (g.1 hb).2
      | false => rw [hbj] at hb; rw [(g.2 hb).2]; exact ihj (by omega)
  let ch : Nat → Bool := fun i => bs[i]?.getD false
  have chT : ∀ i, i < bs.length → ch i = true → bs[i]? = some true := fun i hi h => by
    have h : bs[i]?.getD false = true := h
    rw [hbs i hi] at h ⊢
    simpa using h
  have chF : ∀ i, i < bs.length → ch i = false → bs[i]? = some false := fun i hi h => by
    have h : bs[i]?.getD false = false := h
    rw [hbs i hi] at h ⊢
    simpa using h
  have hbase : ∀ i, i ≤ bs.length → (∀ c, c < i → ch c = false) → hp i = H := by
    intro i
    induction i with
    | zero => intros; exact g20
    | succ i ihi =>
      intro hi hcf
      obtain ⟨o, ho⟩ := hget i (by omega)
      rw [((g3 i o (by omega) ho).2 (chF i (by omega) (hcf i (by omega)))).2]
      exact ihi (by omega) fun c hc => hcf c (by omega)
  refine awpAny_mix (pureCheck_ok hc) bs.length hms htl s rs hp ch ?_ ?_ ?_ ?_ g4 ops.size (Array.replicate ops.size false) s H (by simp) ?_ ?_ ?_ ?_ ?_ ⟨0, Nat.zero_le _, g20.symm, fun c hcm hct => ?_⟩
  · intro c c' h1 h2 h3 h4
    have := hx c' (List.mem_range.2 h2)
    obtain ⟨o, ho⟩ := hget c' h2
    rw [chT c' h2 h4, ho] at this
    simp only [List.all_eq_true] at this
    have := this c (List.mem_range.2 h1)
    rw [chT c (by omega) h3] at this
    simpa using this
  · intro i hi hci
    obtain ⟨o, ho⟩ := hget i hi
    exact ((g3 i o hi ho).2 (chF i hi hci)).2
  · intro i o hi ho hci
    exact ((g3 i o hi ho).1 (chT i hi hci)).1
  · intro i o hi ho hci j hj _
    have hfl := hx i (List.mem_range.2 hi)
    rw [chF i hi hci, ho] at hfl
    refine floats_stepT hfl (fun hfirst => ?_) ((g3 i o hi ho).2 (chF i hi hci)).1
    rw [hbase i (by omega) fun c hc => ?_]
    · exact hext j hj
    · rw [List.all_eq_true] at hfirst
      have := hfirst (bs[c]'(by omega)) (by
        rw [List.mem_iff_getElem]
        exact ⟨c, by simp; omega, by simp⟩)
      show bs[c]?.getD false = false
      rw [hbs c (by omega)]
      simpa using this
  · exact Nat.le_trans List.countP_le_length (by simp)
  · intro t j hj
    have hjl := dstAt_lt hj
    rw [if_neg (by simp [Array.getD, hjl])]
  · intro t _; rfl
  · intro j oj i hoj hl
    have hjl := (Array.getElem?_eq_some_iff.1 hoj).1
    simp [Array.getD, hjl] at hl
  · intro i hi hi2
    simp [Array.getD, hi2]
  · have : c < ops.size := by omega
    simp [Array.getD, this]
end
def mixCheckN (hint : Nat → Bool) (ops : Array Oper) (bs : List Bool) (c0 : Nat) : Bool := bs[c0]? == some true && (List.range bs.length).all fun i => match bs[i]?, ops[i]? with
  | some false, some o => floats hint false o || (decide (i < c0) && reachB ops 12 c0 i)
  | some true, some _ => decide (c0 ≤ i) && (List.range i).all fun c => bs[c]? == some false || reachB ops 12 i c
  | _, _ => false
theorem Ext.nil (H : AHeap) : Ext [] H = True := eq_true fun id o h => by simp at h
section
variable {P : Program} {hint : Nat → Bool} {n : Nat} {ops : Array Oper} {Q : Post}
/-- A drawn region whose marked operations, all bound one behind the other, change the heap in any way: what reads it is bound ahead of the first of them. -/
theorem awp_drawN (bs : List Bool) (c0 : Nat) {H0 H : AHeap} {id : Nat} {s : Nat → AV} (hm : P.follows .mixedOrders = true) (hc : pureCheck ops = true) (ht : tailCheck ops bs.length = true) (hx : mixCheckN hint ops bs c0 = true)
    (h : awpMix P hint n ops [] Q bs ops.toList s H) : awp P hint n H0 (.region id ops true) Q s H := by
  obtain ⟨hms, htl⟩ := tailCheck_ok ht
  refine ⟨hm, ?_⟩
  obtain ⟨rs, hp, _, g2, g3, g4⟩ := awpMix_steps (pureCheck_ok hc).det s bs 0 (fun _ => .top) (fun _ => H) (by omega) h
  have g20 : hp 0 = H := g2 0 (Nat.le_refl _)
  simp only [Nat.zero_add, Nat.sub_zero, Nat.zero_le, true_implies] at g3 g4
  unfold mixCheckN at hx
  rw [Bool.and_eq_true, List.all_eq_true] at hx
  obtain ⟨hx0, hx⟩ := hx
  have hx0 : bs[c0]? = some true := by simpa using hx0
  have hget : ∀ i, i < bs.length → ∃ o, ops[i]? = some o := fun i hi => ⟨ops[i]'(by omega), by simp [show i < ops.size by omega]⟩
  have hbs : ∀ i (hi : i < bs.length), bs[i]? = some bs[i] := fun i hi => List.getElem?_eq_getElem hi
  let ch : Nat → Bool := fun i => bs[i]?.getD false
  have chT : ∀ i, i < bs.length → ch i = true → bs[i]? = some true := fun i hi h => by
    have h : bs[i]?.getD false = true := h
    rw [hbs i hi] at h ⊢
    simpa using h
  have chF : ∀ i, i < bs.length → ch i = false → bs[i]? = some false := fun i hi h => by
    have h : bs[i]?.getD false = false := h
    rw [hbs i hi] at h ⊢
    simpa using h
  have hc0 : ch c0 = true := by show bs[c0]?.getD false = true; rw [hx0]; rfl
  have hfirst : ∀ i, i < bs.length → i < c0 → ch i = false := by
    intro i hi hlt
    cases hci : ch i with
    | false => rfl
    | true =>
      exfalso
      obtain ⟨o, ho⟩ := hget i hi
      have := hx i (List.mem_range.2 hi)
      rw [chT i hi hci, ho] at this
      simp only [Bool.and_eq_true, decide_eq_true_eq] at this
      omega
  have hbase : ∀ i, i ≤ bs.length → i ≤ c0 → hp i = H := by
    intro i
    induction i with
    | zero => intros; exact g20
    | succ i ihi =>
      intro hi hcf
      obtain ⟨o, ho⟩ := hget i (by omega)
      rw [((g3 i o (by omega) ho).2 (chF i (by omega) (hfirst i (by omega) (by omega)))).2]
      exact ihi (by omega) (by omega)
  refine awpAny_mix (pureCheck_ok hc) bs.length hms htl s rs hp ch ?_ ?_ ?_ ?_ g4 ops.size (Array.replicate ops.size false) s H (by simp) ?_ ?_ ?_ ?_ ?_ ⟨0, Nat.zero_le _, g20.symm, fun c hcm hct => ?_⟩
  · intro c c' h1 h2 h3 h4
    have := hx c' (List.mem_range.2 h2)
    obtain ⟨o, ho⟩ := hget c' h2
    rw [chT c' h2 h4, ho] at this
    simp only [Bool.and_eq_true, List.all_eq_true] at this
    have := this.2 c (List.mem_range.2 h1)
    rw [chT c (by omega) h3] at this
    simpa using this
  · intro i hi hci
    obtain ⟨o, ho⟩ := hget i hi
    exact ((g3 i o hi ho).2 (chF i hi hci)).2
  · intro i o hi ho hci
    exact ((g3 i o hi ho).1 (chT i hi hci)).1
  · intro i o hi ho hci j hj hnr
    have hfl := hx i (List.mem_range.2 hi)
    rw [chF i hi hci, ho] at hfl
    simp only [Bool.or_eq_true, Bool.and_eq_true, decide_eq_true_eq] at hfl
    have hs := ((g3 i o hi ho).2 (chF i hi hci)).1
    rcases hfl with hfl | ⟨hlt, hre⟩
    · exact floats_stepT hfl (fun hf => by cases hf) hs
    · have hjc : j ≤ c0 := by
        rcases Nat.lt_or_ge c0 j with h1 | h1
        · have := hnr c0 h1 hc0
          rw [hre] at this; cases this
        · exact h1
      rw [hbase j hj hjc]
      rw [hbase i (by omega) (by omega)] at hs
      exact hs
  · exact Nat.le_trans List.countP_le_length (by simp)
  · intro t j hj
    have hjl := dstAt_lt hj
    rw [if_neg (by simp [Array.getD, hjl])]
  · intro t _; rfl
  · intro j oj i hoj hl
    have hjl := (Array.getElem?_eq_some_iff.1 hoj).1
    simp [Array.getD, hjl] at hl
  · intro i hi hi2
    simp [Array.getD, hi2]
  · have : c < ops.size := by omega
    simp [Array.getD, this]
end
section
variable (P : Program) (hint : Nat → Bool) (n : Nat) (ops : Array Oper) (Q : Post) (rest : List Oper) (s : Nat → AV) (H B : AHeap) (bs : List Bool)
def KMix (b : Bool) (d : Option Tmp) (H0 : AHeap) : AV → AHeap → Prop := fun r H' => (match b with | true => Ext B H' | false => H' = H0) ∧ awpMix P hint n ops B Q bs rest (aput n s d r) H'
theorem KMix_true (d : Option Tmp) (H0 : AHeap) (r : AV) : KMix P hint n ops Q rest s B bs true d H0 r H = (Ext B H ∧ awpMix P hint n ops B Q bs rest (aput n s d r) H) := rfl
theorem KMix_false (d : Option Tmp) (H0 : AHeap) (r : AV) : KMix P hint n ops Q rest s B bs false d H0 r H = (H = H0 ∧ awpMix P hint n ops B Q bs rest (aput n s d r) H) := rfl
theorem awpMix_end (l : List Oper) : awpMix P hint n ops B Q [] l s H = awpList P hint n ops Q l s H := by cases l <;> rfl
theorem awpMix_none (b : Bool) (d : Option Tmp) (op : Op) (ty : TypeId) (p : String) (af : Array Edge) : awpMix P hint n ops B Q (b :: bs) (⟨d, op, ty, p, af, none⟩ :: rest) s H = astep P hint s H ⟨d, op, ty, p, af, none⟩ (KMix P hint n ops Q rest s B bs b d H) KNo := by
  cases b <;> simp only [awpMix, awpOp] <;> rfl
theorem awpMix_mk (l : List Oper) : awpMix P hint n ops B Q bs l.toArray.toList s H = awpMix P hint n ops B Q bs l s H := rfl
end
@[congr] theorem cg_mix {P : Program} {hint : Nat → Bool} {n : Nat} {ops : Array Oper} {Q : Post} {bs : List Bool} {l : List Oper} {s : Nat → AV} {B H H' : AHeap} (h : nf H = H') : awpMix P hint n ops B Q bs l s H = awpMix P hint n ops B Q bs l s H' := by rw [← h]; rfl
@[congr] theorem cg_KMix {P : Program} {hint : Nat → Bool} {n : Nat} {ops : Array Oper} {Q : Post} {rest : List Oper} {s : Nat → AV} {bs : List Bool} {b : Bool} {d : Option Tmp} {B H0 H H' : AHeap} {r r' : AV} (g : nf r = r') (h : nf H = H') : KMix P hint n ops Q rest s B bs b d H0 r H = KMix P hint n ops Q rest s B bs b d H0 r' H' := by rw [← g, ← h]; rfl
attribute [go_sem] Ext.nil KMix_true KMix_false awpMix_end awpMix_none awpMix_mk
end Go.Proofs.YtkapgooedfompaaGreatAw
namespace Go.Proofs.YtkapgooedfompaaGreatAw
open Go.RowKit
set_option linter.unusedVariables false
theorem CallsV.mono {P : Program} {f : FuncId} {vals : Array Value} {w : World} {R R' : Ending → World → Prop} (h : CallsV P f vals w R) (hR : ∀ e w', R e w' → R' e w') : CallsV P f vals w R' := by
  rcases h with ⟨h1, h2⟩ | ⟨v, w', h1, h2⟩
  · exact .inl ⟨h1, h2.mono hR⟩
  · exact .inr ⟨v, w', h1, hR _ _ h2⟩
def sOne (r : AV) : Nat → AV := fun t => if t = 0 then r else .top
/-- A result may be weakened: forgotten, frozen. -/
theorem Does.weak {P : Program} {f : FuncId} {args : List AV} {H H1 H2 : AHeap} {r : AV} {s' : Nat → AV} (h : Does P f args H (.ok r) H1) (hW : Weak H (sOne r) H1 s' H2) : Does P f args H (.ok (s' 0)) H2 := by
  intro φ N w vals hR hA
  refine (h φ N w vals hR hA).mono ?_
  rintro e w' ⟨φ1, N1, hR1, hS1, hE⟩
  cases e with
  | returned v =>
    have hI : Inv H φ N w 1 [] (sOne r) H1 φ1 N1 { tmps := #[v], defers := [] } w' := by
      refine ⟨hR1, fun t => ?_, hS1, rfl, rfl⟩
      unfold sOne
      by_cases ht : t = 0
      · subst ht; exact hE
      · rw [if_neg ht]; exact .top _
    obtain ⟨φ2, N2, hI2⟩ := hW.ok hR hI
    exact ⟨φ2, N2, hI2.rel, hI2.since, hI2.tmps 0⟩
  | panicked _ => exact hE.elim
  | outgrown => exact hE.elim
theorem Does.drop {P : Program} {f : FuncId} {args : List AV} {H T : AHeap} {r : AV} (h : Does P f args H (.ok r) (H ++ T)) : Does P f args H (.ok (frz (H ++ T) H.length r)) H := h.weak (Weak.drop H T _)
theorem frz_new (H : AHeap) (e : TypeId) (k v n : Nat) (es : List (List D)) (h : es.length = n) : frz (H ++ [.arr e k v es]) H.length (.sl H.length v 0 n) = .d (.list false es) := by
  rw [frz_sl, frz0_sl, if_neg (Nat.lt_irrefl _), get_snoc_self]
  simp only [if_true, List.drop_zero]
  rw [take_len _ _ h]
/-- A new array that is left may be taken for a list that never changes. -/
theorem Does.list {P : Program} {f : FuncId} {args : List AV} {H : AHeap} {e : TypeId} {k v n : Nat} {es : List (List D)} (h : Does P f args H (.ok (.sl H.length v 0 n)) (H ++ [.arr e k v es])) (hn : es.length = n) : Does P f args H (.ok (.d (.list false es))) H := by
  have := h.drop
  rwa [frz_new _ _ _ _ _ _ hn] at this
theorem AEnd.ret' {rs : List Tmp} {H H' T : AHeap} {s : Nat → AV} {r : AV} (e : H' = H ++ T) (h : r = ares rs fun t => frz H' H.length (s t)) : AEnd rs H (.ok r) H .ret s H' := by subst e; exact AEnd.ret h
theorem Does.imp {P : Program} {f : FuncId} {args : List AV} {H H' : AHeap} {r r' : AV} (h : Does P f args H (.ok r) H') (hr : ∀ φ N w v, RA H' φ N w r v → RA H' φ N w r' v) : Does P f args H (.ok r') H' := by
  have := h.weak (s' := sOne r') (.imp _ _ _ fun φ N w u v hv => ?_)
  · exact this
  · unfold sOne at hv ⊢
    by_cases hu : u = 0
    · rw [if_pos hu] at hv ⊢; exact hr _ _ _ _ hv
    · rw [if_neg hu] at hv ⊢; exact hv
theorem RA.tupSub {H : AHeap} {φ : Phi} {N : Addr → Prop} {w : World} {cs cs' : List AV} {v : Value} (hs : SubL cs cs') (h : RA H φ N w (.tup cs) v) : RA H φ N w (.tup cs') v := by
  cases h with
  | tup cs vs hl hh => exact .tup _ vs (hs.len.symm.trans hl) fun i h1 h2 => hs.ra i (by rw [hs.len]; exact h1) h1 (hh i (by rw [hs.len]; exact h1) h2)
theorem Does.subT {P : Program} {f : FuncId} {args : List AV} {H H' : AHeap} {cs cs' : List AV} (h : Does P f args H (.ok (.tup cs)) H') (hs : SubL cs cs') : Does P f args H (.ok (.tup cs')) H' := h.imp fun _ _ _ _ hv => hv.tupSub hs
/-- An empty list is nil, or it is not. -/
theorem RA.empty {H : AHeap} {φ : Phi} {N : Addr → Prop} {w : World} {v : Value} (h : RA H φ N w (.d (.list false [])) v) : RA H φ N w (.d (.v (.slice none 0 0))) v ∨ RA H φ N w (.d (.list true [])) v := by
  cases h with
  | d h =>
    cases h with
    | nil A c hA =>
      cases A with
      | none => rw [hA rfl]; exact .inl (.d (.v _ rfl))
      | some ad => exact .inr (.d (RD.list true [] ad c 0 (fun _ _ => undef) (Nat.zero_le _) (fun e he => by simp at he) (fun i j hi => by simp at hi) (fun i hi => by simp at hi)))
    | list _ _ ad cap k c hc hk hh hd => exact .inr (.d (RD.list true [] ad cap k c hc hk hh hd))
theorem Does.splitNil {P : Program} {f : FuncId} {H H' : AHeap} {res : ARes} (pre post : List AV) (h1 : Does P f (pre ++ .d (.v (.slice none 0 0)) :: post) H res H') (h2 : Does P f (pre ++ .d (.list true []) :: post) H res H') : Does P f (pre ++ .d (.list false []) :: post) H res H' := by
  intro φ N w vals hR hA
  have hlt : pre.length < vals.size := by rw [← hA.1]; simp
  have h0 := hA.2 pre.length (by simp) hlt
  simp only [List.getElem_append_right (Nat.le_refl _), Nat.sub_self, List.getElem_cons_zero] at h0
  have go : ∀ x, RA H φ N w x (vals[pre.length]) → RAs H φ N w (pre ++ x :: post) vals := fun x hx => by
    refine ⟨by rw [← hA.1]; simp, fun i g1 g2 => ?_⟩
    have h3 := hA.2 i (by simpa using g1) g2
    by_cases hi : i = pre.length
    · subst hi
      simp only [List.getElem_append_right (Nat.le_refl _), Nat.sub_self, List.getElem_cons_zero]
      exact hx
    · rcases Nat.lt_or_ge i pre.length with hlt2 | hge
      · rw [List.getElem_append_left hlt2] at h3 ⊢; exact h3
      · rw [List.getElem_append_right hge] at h3 ⊢
        obtain ⟨j, hj⟩ : ∃ j, i - pre.length = j + 1 := ⟨i - pre.length - 1, by omega⟩
        simp only [hj, List.getElem_cons_succ] at h3 ⊢
        exact h3
  rcases RA.empty h0 with h | h
  · exact h1 φ N w vals hR (go _ h)
  · exact h2 φ N w vals hR (go _ h)
theorem nilEq_run {P : Program} (d : Nat) (t e : TypeId) (h : P.underlying t = some (.slice e)) (w : World) : (Op.equalIn (d + 1) t (.slice none 0 0) (.slice none 0 0)).run P w = .ok true w := by simp [Op.equalIn, run_underlying h]
theorem nilEq_pure {P : Program} {t e : TypeId} (hu : P.underlying t = some (.slice e)) : PureBin P .eql t (.slice none 0 0) (.slice none 0 0) (.bool true) := fun x y w => by
  have hg : (eqGuard .eql t x y (.slice none 0 0) (.slice none 0 0)).run P w = .ok () w := by simp [eqGuard]
  have he : (Op.equal t (.slice none 0 0) (.slice none 0 0)).run P w = .ok true w := nilEq_run 9999 t e hu w
  rw [Sem.run_bind, hg]
  simp only [Result.andThen_ok, Go.binOp]
  simp [he]
/-- Nil held against nil. -/
theorem nilEq_bin {P : Program} {t e : TypeId} (hu : P.underlying t = some (.slice e)) (K : Value → Prop) : binK P .eql t (.slice none 0 0) (.slice none 0 0) K = K (.bool true) := by
  have h := nilEq_pure hu
  have : binK P .eql t (.slice none 0 0) (.slice none 0 0) K = ∃ r, PureBin P .eql t (.slice none 0 0) (.slice none 0 0) r ∧ K r := by unfold binK; rfl
  rw [this]
  exact propext ⟨fun ⟨r', h', k⟩ => by rw [h.inj h']; exact k, fun k => ⟨_, h, k⟩⟩
def KMid (I : (Nat → AV) → AHeap → Prop) : Post := fun e s H => match e with | .normal => I s H | _ => False
theorem KMid_normal (I : (Nat → AV) → AHeap → Prop) (s : Nat → AV) (H : AHeap) : KMid I .normal s H = I s H := rfl
attribute [go_sem] KMid_normal
section
variable {P : Program} {hint : Nat → Bool} {n : Nat} {H0 : AHeap} {Q : Post} {s : Nat → AV} {H : AHeap}
theorem awp_cut {x y : Code} (I : (Nat → AV) → AHeap → Prop) (hh : hintAt hint y = false) (h1 : awp P hint n H0 x (KMid I) s H) (h2 : ∀ s H, I s H → awp P hint n H0 y Q s H) : awp P hint n H0 x (KSeq P hint n H0 y Q) s H := by
  refine awp_mono x (fun e s H h => ?_) s H h1
  cases e with
  | normal => rw [KSeq_normal, hh, aite_false]; exact h2 s H h
  | _ => exact h.elim
theorem acond_cut {x x' y : Code} {b : Bool} (I : (Nat → AV) → AHeap → Prop) (hh : hintAt hint y = false) (h1 : acond (some b) (awp P hint n H0 x (KMid I) s H) (awp P hint n H0 x' (KMid I) s H)) (h2 : ∀ s H, I s H → awp P hint n H0 y Q s H) :
    acond (some b) (awp P hint n H0 x (KSeq P hint n H0 y Q) s H) (awp P hint n H0 x' (KSeq P hint n H0 y Q) s H) := by
  cases b
  · exact awp_cut I hh h1 h2
  · exact awp_cut I hh h1 h2
theorem awp_cutB {x y : Code} {b : Nat} (I : (Nat → AV) → AHeap → Prop) (hh : hintAt hint y = false) (h1 : awp P hint n H0 x (KBlock b (KMid I)) s H) (h2 : ∀ s H, I s H → awp P hint n H0 y Q s H) : awp P hint n H0 x (KBlock b (KSeq P hint n H0 y Q)) s H := by
  refine awp_mono x (fun e s H h => ?_) s H h1
  cases e with
  | normal => show KSeq P hint n H0 y Q .normal s H; rw [KSeq_normal, hh, aite_false]; exact h2 s H h
  | exit i =>
    rw [KBlock_exit] at h ⊢
    by_cases hi : i = b
    · rw [if_pos hi] at h ⊢; rw [KSeq_normal, hh, aite_false]; exact h2 s H h
    · rw [if_neg hi] at h; exact h.elim
  | _ => exact h.elim
end
end Go.Proofs.YtkapgooedfompaaGreatAw
namespace Go.Proofs.YtkapgooedfompaaGreat
open Go.Proofs.YtkapgooedfompaaGreatAw Go.RowKit
set_option linter.unusedVariables false
def us (l : List Nat) : List (List D) := l.map fun (n : Nat) => [.v (.int .u64 (n : Int))]
def bys (l : List Nat) : List (List D) := l.map fun (n : Nat) => [.v (.int .u8 (n : Int))]
theorem us_len (l : List Nat) : (us l).length = l.length := by simp [us]
theorem bys_len (l : List Nat) : (bys l).length = l.length := by simp [bys]
theorem bys_nil : bys [] = [] := rfl
theorem us_get (l : List Nat) (k : Nat) (h : k < l.length) : (us l)[k]? = some [.v (.int .u64 (l[k] : Int))] := by simp [us, h]
theorem bys_get (l : List Nat) (k : Nat) (h : k < l.length) : (bys l)[k]? = some [.v (.int .u8 (l[k] : Int))] := by simp [bys, h]
theorem us_snoc (l : List Nat) (n : Nat) : us l ++ [[.v (.int .u64 (n : Int))]] = us (l ++ [n]) := by simp [us]
theorem bys_snoc (l : List Nat) (n : Nat) : bys l ++ [[.v (.int .u8 (n : Int))]] = bys (l ++ [n]) := by simp [bys]
theorem bys_app (l m : List Nat) : bys l ++ bys m = bys (l ++ m) := by simp [bys]
theorem bys_set (l : List Nat) (k n : Nat) : (bys l).set k [.v (.int .u8 (n : Int))] = bys (l.set k n) := by simp [bys, List.map_set]
theorem bys_one (l : List Nat) : (∀ c ∈ bys l, c.length = 1) = True := eq_true fun c hc => by obtain ⟨x, _, rfl⟩ := List.mem_map.1 hc; rfl
end Go.Proofs.YtkapgooedfompaaGreat
namespace Go.Proofs.YtkapgooedfompaaGreat
open Go.Proofs.YtkapgooedfompaaGreatAw Go.RowKit
set_option linter.unusedVariables false
set_option linter.unusedSimpArgs false
def widthP (l : List Nat) : Nat := lenN (l.foldl (· ||| ·) 0)
theorem foldOr_lt {l : List Nat} (h : ∀ n ∈ l, n < 18446744073709551616) : ∀ {a : Nat}, a < 18446744073709551616 → l.foldl (· ||| ·) a < 18446744073709551616 := by
  induction l with
  | nil => exact fun h => h
  | cons x l ih => exact fun {a} ha => ih (fun n hn => h n (by simp [hn])) (Nat.or_lt_two_pow (n := 64) ha (h x (by simp)))
set_option maxRecDepth 10000 in
set_option maxHeartbeats 1000000 in
theorem width_does (l : List Nat) (nn : Bool) (H : AHeap) (hl : l.length ≤ 9223372036854775807) (hu : ∀ n ∈ l, n < 18446744073709551616) : Does Tryz.prog 57 [.d (.list nn (us l))] H (.ok (iA (widthP l))) H := by
  refine Does.of_awp (hint := (fun _ => false)) Tryz.func57 (by kernel_rfl) rfl [2] (by kernel_rfl) (by decide) (by simp [Tryz.ntmps57]) ?_
  rw [Tryz.ntmps57]
  simp (implicitDefEqProofs := false) only [↓reduceIte, go_sem, Nat.reduceLT, reduceCtorEq, eq_self, us_len]
  refine awp_for (fun k s H' => H' = H ∧ s 3 = du ((l.take k).foldl (· ||| ·) 0) ∧ s 6 = .d (.list nn (us l)) ∧ s 7 = iA l.length ∧ s 8 = iA k) l.length hl (Weak.refl _ _) ?_ ?_ ?_
  · refine ⟨rfl, ?_⟩
    simp (implicitDefEqProofs := false) only [↓reduceIte, go_sem, Nat.reduceLT, Nat.reduceEqDiff, eq_self, List.take_zero, List.foldl_nil]
    rfl
  · rintro k s H' hk hw ⟨rfl, t3, t6, t7, t8⟩
    have hx := us_get l k hk
    have e1 := List.take_succ_eq_append_getElem hk
    have hb : (l.take k).foldl (· ||| ·) 0 < 18446744073709551616 := foldOr_lt (fun n hn => hu n (List.mem_of_mem_take hn)) (by decide)
    have hc := hu _ (List.getElem_mem hk)
    have e2 : (l.take (k + 1)).foldl (· ||| ·) 0 = (l.take k).foldl (· ||| ·) 0 ||| l[k] := by rw [e1, List.foldl_append]; rfl
    generalize l[k] = x at hx hc e2
    generalize (l.take k).foldl (· ||| ·) 0 = A at *
    have hor := orI_nat .u64 A x hb hc
    have hd : A ||| x < 18446744073709551616 := Nat.or_lt_two_pow (n := 64) hb hc
    simp (implicitDefEqProofs := false) only [↓reduceIte, go_sem, Nat.reduceLT, Nat.reduceEqDiff, eq_self, t3, t6, t7, t8, hk, hx, hor, wrapU64N _ hd]
    refine Rnd.same ⟨rfl, ?_⟩
    simp (implicitDefEqProofs := false) only [↓reduceIte, go_sem, Nat.reduceLT, Nat.reduceEqDiff, eq_self, t6, t7, hw, e2]
  · rintro s H' ⟨rfl, t3, t6, t7, t8⟩
    simp (implicitDefEqProofs := false) only [↓reduceIte, go_sem, Nat.reduceLT, Nat.reduceEqDiff, eq_self, t3, t7, t8]
    rw [List.take_length]
    refine KCall.ok (len64_does _ (foldOr_lt hu (by decide)) _) ?_
    simp (implicitDefEqProofs := false) only [↓reduceIte, go_sem, Nat.reduceLT, eq_self]
    refine AEnd.ret0 ?_
    simp (implicitDefEqProofs := false) only [↓reduceIte, go_sem, Nat.reduceLT, eq_self, widthP]
def putP (n : Nat) : List Nat := if h : n < 128 then [n] else (n % 128 + 128) :: putP (n / 128)
termination_by n
theorem putP_small {n : Nat} (h : n < 128) : putP n = [n] := by rw [putP]; simp [h]
theorem putP_big {n : Nat} (h : ¬ n < 128) : putP n = (n % 128 + 128) :: putP (n / 128) := by rw [putP]; simp [h]
theorem or128 : ∀ m, m < 256 → m ||| 128 = m % 128 + 128 := by decide +kernel
theorem putByte (n : Nat) : IntKind.u8.wrap (orI .u8 ((n % 256 : Nat) : Int) 128) = ((n % 128 + 128 : Nat) : Int) := by
  have := orI_nat .u8 (n % 256) 128 (Nat.mod_lt _ (by decide)) (by decide)
  rw [show ((128 : Nat) : Int) = 128 from rfl] at this
  rw [this, or128 _ (Nat.mod_lt _ (by decide))]
  rw [show n % 256 % 128 = n % 128 from Nat.mod_mod_of_dvd n (by decide)]
  exact wrapu8_in _ (by omega) (by omega)
set_option maxRecDepth 10000 in
set_option maxHeartbeats 1000000 in
theorem putOwn_does (n0 : Nat) (hn : n0 < 18446744073709551616) (H : AHeap) : Does Tryz.prog 19 [du n0] H (.ok (.sl H.length (putP n0).length 0 (putP n0).length)) (H ++ [.arr 5 1 (putP n0).length (bys (putP n0))]) := by
  have s7 : ∀ n : Nat, shrI .u64 (n : Int) 7 = ((n / 128 : Nat) : Int) := fun n => shrU n 7 (by decide)
  refine Does.of_awp (hint := (fun _ => false)) Tryz.func19 (by kernel_rfl) rfl [2] (by kernel_rfl) (by decide) (by simp [Tryz.ntmps19]) ?_
  rw [Tryz.ntmps19]
  simp (implicitDefEqProofs := false) only [go_sem]
  refine awp_loop _ _ _ _ (fun (x : Nat × List Nat) s H' => H' = H ++ [.arr 5 1 x.2.length (bys x.2)] ∧ x.1 * 128 ^ x.2.length ≤ n0 ∧ (x.2.length = 0 ∨ 0 < x.1) ∧ putP n0 = x.2 ++ putP x.1 ∧ s 0 = du x.1 ∧ s 3 = .sl H.length x.2.length 0 x.2.length) (fun x => x.1) (n0, []) (Weak.virt1 _ _ 3 5 1 (by decide) (by simp (implicitDefEqProofs := false) only [↓reduceIte, go_sem, Nat.reduceLT, eq_self]) _) ?_ ?_
  · refine ⟨?_, by simp, .inl rfl, by simp, ?_⟩
    · simp (implicitDefEqProofs := false) only [go_sem, eq_self, bys_nil, List.length_nil]
    · simp (implicitDefEqProofs := false) only [↓reduceIte, go_sem, reduceCtorEq, eq_self, List.length_nil]
  · rintro ⟨n, bs⟩ s H' ⟨rfl, h1, h3, h2, t0, t3⟩
    simp only at h1 h2 h3 t0 t3
    have hb : bs.length < 10 := by
      rcases Nat.lt_or_ge bs.length 10 with h | h
      · exact h
      · exfalso
        have h4 : 128 ^ 10 ≤ 128 ^ bs.length := Nat.pow_le_pow_right (by decide) h
        have h5 : 1 * 128 ^ bs.length ≤ n * 128 ^ bs.length := Nat.mul_le_mul_right _ (by omega)
        omega
    have hnn : n ≤ n0 := Nat.le_trans (Nat.le_mul_of_pos_right _ (Nat.pow_pos (by decide))) h1
    by_cases hlt : (128 : Int) ≤ (n : Int)
    · have hpb := putByte n
      have hp2 := putP_big (n := n) (by omega)
      generalize n % 128 + 128 = m at hpb hp2
      simp (implicitDefEqProofs := false) only [↓reduceIte, go_sem, Nat.reduceLT, Nat.reduceLeDiff, Nat.reduceEqDiff, Int.reduceLE, reduceCtorEq, eq_self, t0, t3, hlt, wrapU8mod, hpb, bys_len, bys_snoc, s7]
      refine ⟨by omega, by omega, _, _, (n / 128, bs ++ [m]), .refl _ _, ⟨?_, ?_, .inr (by simp only; omega), ?_, ?_⟩, by simp only; omega⟩
      · simp (implicitDefEqProofs := false) only [go_sem, eq_self, List.length_append]
      · simp only [List.length_append, List.length_singleton, Nat.pow_succ]
        have : n / 128 * (128 ^ bs.length * 128) = (n / 128 * 128) * 128 ^ bs.length := by rw [Nat.mul_comm (128 ^ _), ← Nat.mul_assoc]
        rw [this]
        exact Nat.le_trans (Nat.mul_le_mul_right _ (Nat.div_mul_le_self n 128)) h1
      · rw [h2, hp2]; simp
      · simp (implicitDefEqProofs := false) only [↓reduceIte, go_sem, Nat.reduceLT, Nat.reduceEqDiff, reduceCtorEq, eq_self, List.length_append]
    · have hm : n % 256 = n := by omega
      simp (implicitDefEqProofs := false) only [↓reduceIte, go_sem, Nat.reduceLT, Nat.reduceLeDiff, Nat.reduceEqDiff, reduceCtorEq, eq_self, t0, t3, hlt, wrapU8mod, bys_len, hm, bys_snoc]
      have : putP n0 = bs ++ [n] := by rw [h2, putP_small (by omega)]
      rw [this, List.length_append, List.length_singleton]
      exact ⟨by omega, by omega, _, Weak.refl _ _, by simp (implicitDefEqProofs := false) only [↓reduceIte, go_sem, Nat.reduceLT, eq_self]⟩
theorem put_does (n0 : Nat) (hn : n0 < 18446744073709551616) (H : AHeap) : Does Tryz.prog 19 [du n0] H (.ok (.d (.list false (bys (putP n0))))) H := (putOwn_does n0 hn H).list (bys_len _)
end Go.Proofs.YtkapgooedfompaaGreat
namespace Go.Proofs.YtkapgooedfompaaGreat
open Go.Proofs.YtkapgooedfompaaGreatAw Go.RowKit
set_option linter.unusedVariables false
set_option linter.unusedSimpArgs false
def byteOf : List Bool → Nat
  | [] => 0
  | b :: r => b.toNat + 2 * byteOf r
theorem byteOf_lt : ∀ l : List Bool, byteOf l < 2 ^ l.length
  | [] => by simp [byteOf]
  | b :: r => by
    have := byteOf_lt r
    simp only [byteOf, List.length_cons, Nat.pow_succ]
    cases b <;> simp <;> omega
theorem byteOf_snoc : ∀ (l : List Bool) (b : Bool), byteOf (l ++ [b]) = byteOf l + b.toNat * 2 ^ l.length
  | [], b => by simp [byteOf]
  | c :: r, b => by
    simp only [List.cons_append, byteOf, byteOf_snoc r b, List.length_cons, Nat.pow_succ]
    rw [Nat.mul_add, ← Nat.mul_assoc 2, Nat.mul_comm 2 b.toNat, Nat.mul_assoc b.toNat, Nat.mul_comm 2 (2 ^ _)]
    omega
def byteAt (l : List Bool) (i : Nat) : Nat := byteOf ((l.drop (8 * i)).take 8)
def packB (l : List Bool) : List Nat := (List.range ((l.length + 7) / 8)).map (byteAt l)
theorem packB_len (l : List Bool) : (packB l).length = (l.length + 7) / 8 := by simp [packB]
/-- Ready for one bit more. -/
def packR (l : List Bool) : List Nat := (List.range (l.length / 8 + 1)).map (byteAt l)
theorem packR_len (l : List Bool) : (packR l).length = l.length / 8 + 1 := by simp [packR]
theorem packR_full {l : List Bool} (h : l.length % 8 = 0) : packR l = packB l ++ [0] := by
  unfold packR packB
  rw [show (l.length + 7) / 8 = l.length / 8 by omega, List.range_succ, List.map_append]
  congr 1
  simp only [List.map_cons, List.map_nil, byteAt]
  rw [List.drop_of_length_le (by omega)]
  rfl
theorem packR_part {l : List Bool} (h : ¬ l.length % 8 = 0) : packR l = packB l := by
  unfold packR packB
  rw [show (l.length + 7) / 8 = l.length / 8 + 1 by omega]
theorem byteAt_lt (l : List Bool) (i : Nat) : byteAt l i < 256 := by
  have h1 := byteOf_lt ((l.drop (8 * i)).take 8)
  have h2 : ((l.drop (8 * i)).take 8).length ≤ 8 := by simp; omega
  have : 2 ^ ((l.drop (8 * i)).take 8).length ≤ 2 ^ 8 := Nat.pow_le_pow_right (by decide) h2
  unfold byteAt; omega
theorem packR_get (l : List Bool) : (packR l)[l.length / 8]? = some (byteAt l (l.length / 8)) := by simp [packR]
theorem byteAt_last (l : List Bool) : byteAt l (l.length / 8) = byteOf (l.drop (8 * (l.length / 8))) := by
  unfold byteAt
  rw [List.take_of_length_le (by simp; omega)]
theorem byteAt_last_lt (l : List Bool) : byteAt l (l.length / 8) < 2 ^ (l.length % 8) := by
  rw [byteAt_last]
  have := byteOf_lt (l.drop (8 * (l.length / 8)))
  rwa [List.length_drop, show l.length - 8 * (l.length / 8) = l.length % 8 by omega] at this
theorem packB_snoc (l : List Bool) (b : Bool) : packB (l ++ [b]) = (packR l).set (l.length / 8) (byteAt l (l.length / 8) + b.toNat * 2 ^ (l.length % 8)) := by
  apply List.ext_getElem?
  intro i
  rw [List.getElem?_set]
  unfold packB packR
  simp only [List.getElem?_map, List.length_append, List.length_singleton, List.length_map, List.length_range]
  rw [show (l.length + 1 + 7) / 8 = l.length / 8 + 1 by omega]
  by_cases h : l.length / 8 = i
  · subst h
    rw [if_pos rfl, if_pos (by omega), List.getElem?_range (by omega)]
    simp only [Option.map_some]
    congr 1
    rw [byteAt_last]
    unfold byteAt
    rw [List.drop_append_of_le_length (by omega), List.take_of_length_le (by simp; omega), byteOf_snoc, List.length_drop, show l.length - 8 * (l.length / 8) = l.length % 8 by omega]
  · rw [if_neg h]
    by_cases hi : i < l.length / 8 + 1
    · rw [List.getElem?_range hi]
      simp only [Option.map_some]
      congr 1
      unfold byteAt
      rw [List.drop_append_of_le_length (by omega), List.take_append_of_le_length (by simp; omega)]
    · rw [List.getElem?_eq_none (by simpa using hi)]
      rfl
def bitsN (n w : Nat) : List Bool := (List.range w).map fun i => n.testBit i
theorem bitsN_len (n w : Nat) : (bitsN n w).length = w := by simp [bitsN]
theorem bitsN_succ (n w : Nat) : bitsN n (w + 1) = bitsN n w ++ [n.testBit w] := by simp [bitsN, List.range_succ]
def wH (G : AHeap) (l : List Bool) : AHeap := G ++ [.box 86 2 0 1 [.sl (G.length + 1) (packB l).length 0 (packB l).length, iA l.length], .arr 5 1 (packB l).length (bys (packB l))]
theorem bit_eq (n i : Nat) (hn : n < 18446744073709551616) (hi : i ≤ 64) : IntKind.u8.wrap (IntKind.u64.wrap (andI .u64 (shrI .u64 (n : Int) (i : Int)) 1)) = (((n.testBit i).toNat : Nat) : Int) := by
  rw [shrU n i hi]
  have h1 : n / 2 ^ i < 18446744073709551616 := Nat.lt_of_le_of_lt (Nat.div_le_self _ _) hn
  have := andI_nat .u64 (n / 2 ^ i) 1 h1 (by decide)
  rw [show ((1 : Nat) : Int) = 1 from rfl] at this
  rw [this, Nat.and_one_is_mod, wrapU64N _ (by omega), wrap8N _ (by omega), Nat.testBit_eq_decide_div_mod_eq]
  rcases Nat.mod_two_eq_zero_or_one (n / 2 ^ i) with h | h <;> rw [h] <;> rfl
theorem shlB (b : Bool) (j : Nat) (hj : j < 8) : IntKind.u8.wrap (shlI .u8 ((b.toNat : Nat) : Int) (j : Int)) = ((b.toNat * 2 ^ j : Nat) : Int) := by
  have h1 : min j 8 = j := by omega
  have h2 : 2 ^ j ≤ 2 ^ 7 := Nat.pow_le_pow_right (by decide) (by omega)
  have h3 : shlI .u8 ((b.toNat : Nat) : Int) (j : Int) = ((b.toNat * 2 ^ j : Nat) : Int) := by
    simp only [shlI, IntKind.bits, Int.toNat_natCast, h1]
    norm_cast
  rw [h3]
  refine wrap8N _ ?_
  cases b
  · simp
  · simp; omega
theorem orB (x : Nat) (b : Bool) (j : Nat) (hj : j < 8) (hx : x < 2 ^ j) : IntKind.u8.wrap (orI .u8 (x : Int) ((b.toNat * 2 ^ j : Nat) : Int)) = ((x + b.toNat * 2 ^ j : Nat) : Int) := by
  have h2 : 2 ^ j ≤ 2 ^ 7 := Nat.pow_le_pow_right (by decide) (by omega)
  have h3 : b.toNat * 2 ^ j ≤ 2 ^ j := by cases b <;> simp
  rw [orI_nat .u8 x (b.toNat * 2 ^ j) (by simp [IntKind.bits]; omega) (by simp [IntKind.bits]; omega)]
  have h4 : x ||| b.toNat * 2 ^ j = x + b.toNat * 2 ^ j := by
    rw [Nat.or_comm, Nat.mul_comm, ← Nat.two_pow_add_eq_or_of_lt hx]
    omega
  rw [h4]
  exact wrap8N _ (by omega)
theorem modI (n : Nat) : Int.tmod (n : Int) 8 = ((n % 8 : Nat) : Int) := by rw [Int.tmod_eq_emod_of_nonneg (by omega)]; rfl
theorem divI (n : Nat) : Int.tdiv (n : Int) 8 = ((n / 8 : Nat) : Int) := by rw [Int.tdiv_eq_ediv_of_nonneg (by omega)]; rfl
set_option maxRecDepth 10000 in
set_option maxHeartbeats 1000000 in
theorem wput_does (n w : Nat) (hw : w ≤ 64) (hn : n < 2 ^ w) (G : AHeap) (l0 : List Bool) (hl : l0.length ≤ 100000000) : Does Tryz.prog 55 [.ptr G.length 0 0 0, du n, iA w] (wH G l0) (.ok (iA 0)) (wH G (l0 ++ bitsN n w)) := by
  have hn64 : n < 18446744073709551616 := Nat.lt_of_lt_of_le hn (Nat.pow_le_pow_right (by decide) hw)
  have hlen := (lenN_le n w).2 hn
  generalize hE : wH G (l0 ++ bitsN n w) = E
  refine Does.of_awp (hint := (fun _ => false)) Tryz.func55 (by kernel_rfl) rfl [6] (by kernel_rfl) (by decide) (by simp [Tryz.ntmps55]) ?_
  rw [Tryz.ntmps55]
  simp (implicitDefEqProofs := false) only [↓reduceIte, go_sem, Nat.reduceLT, Nat.reduceEqDiff, reduceCtorEq, eq_self, wH, show ((w : Int) < 0) = False from eq_false (by omega), show ((64 : Int) < (w : Int)) = False from eq_false (by omega)]
  refine KCall.ok (len64_does n hn64 _) ?_
  simp (implicitDefEqProofs := false) only [↓reduceIte, go_sem, Nat.reduceLT, Nat.reduceEqDiff, reduceCtorEq, eq_self, show (((w : Nat) : Int) < ((lenN n : Nat) : Int)) = False from eq_false (by omega)]
  refine awp_for (fun k s H' => H' = wH G (l0 ++ bitsN n k) ∧ s 0 = .ptr G.length 0 0 0 ∧ s 1 = du n ∧ s 24 = iA w ∧ s 25 = iA k) w (by omega) (Weak.refl _ _) ?_ ?_ ?_
  · refine ⟨by simp [bitsN, wH], ?_⟩
    simp (implicitDefEqProofs := false) only [↓reduceIte, go_sem, Nat.reduceLT, Nat.reduceEqDiff, reduceCtorEq, eq_self]
  · rintro k s H' hk hw2 ⟨rfl, t0, t1, t24, t25⟩
    have hs := bitsN_succ n k
    have hL : (l0 ++ bitsN n k).length = l0.length + k := by rw [List.length_append, bitsN_len]
    have hb := bit_eq n k hn64 (by omega)
    have hap : l0 ++ bitsN n (k + 1) = (l0 ++ bitsN n k) ++ [n.testBit k] := by rw [hs, List.append_assoc]
    rw [hap]
    generalize n.testBit k = c at hb
    generalize l0 ++ bitsN n k = l at hL ⊢
    have hsn := packB_snoc l c
    have hget := packR_get l
    have hblt := byteAt_last_lt l
    have hb8 := byteAt_lt l (l.length / 8)
    generalize byteAt l (l.length / 8) = x at hsn hget hblt hb8
    have hRl := packR_len l
    have hBl := packB_len l
    have hBl2 := packB_len (l ++ [c])
    rw [List.length_append, List.length_singleton] at hBl2
    have hm8 : l.length % 8 < 8 := Nat.mod_lt _ (by decide)
    have e1 := shlB c _ hm8
    have e2 := orB x c _ hm8 hblt
    have hRget : (bys (packR l))[l.length / 8]? = some [.v (.int .u8 (x : Int))] := by simp [bys, hget]
    have hRset : (bys (packR l)).set (l.length / 8) [.v (.int .u8 ((x + c.toNat * 2 ^ (l.length % 8) : Nat) : Int))] = bys (packB (l ++ [c])) := by rw [bys_set, hsn]
    have hRB : (packR l).length = (packB (l ++ [c])).length := by omega
    have hdlt : l.length / 8 < (packR l).length := by omega
    have hfin : G ++ [.box 86 2 0 1 [.sl (G.length + 1) (packR l).length 0 (packR l).length, iA ((l.length : Int) + 1)], .arr 5 1 (packR l).length (bys (packB (l ++ [c])))] = wH G (l ++ [c]) := by
      unfold wH
      rw [hRB, List.length_append, List.length_singleton]
      rfl
    have hw3 : IntKind.i64.wrap ((l.length : Int) + 1) = (l.length : Int) + 1 := wrap64_in _ (by omega) (by omega)
    have hwq : IntKind.i64.wrap ((l.length / 8 : Nat) : Int) = ((l.length / 8 : Nat) : Int) := wrapI _ (by omega)
    have hwk : IntKind.u64.wrap ((k : Nat) : Int) = ((k : Nat) : Int) := wrapU64N _ (by omega)
    have hwm : IntKind.u64.wrap ((l.length % 8 : Nat) : Int) = ((l.length % 8 : Nat) : Int) := wrapU64N _ (by omega)
    generalize c.toNat * 2 ^ (l.length % 8) = y at *
    generalize x + y = z at *
    by_cases h8 : l.length % 8 = 0
    · have hR0 : bys (packB l) ++ [[.v (.int .u8 0)]] = bys (packR l) := by rw [packR_full h8]; exact bys_snoc _ 0
      have hR1 : (packB l).length + 1 = (packR l).length := by rw [packR_full h8]; simp
      simp (implicitDefEqProofs := false) only [↓reduceIte, go_sem, oread, owrite, Nat.reduceAdd, Nat.reduceLT, Nat.reduceLeDiff, Nat.reduceEqDiff, Int.reduceEq, reduceCtorEq, eq_self, wH, t0, t24, t25, hk, modI, h8, bys_len, hR0, hR1]
      refine ⟨by omega, by omega, ?_⟩
      refine awp_drawK 25 K.mixed (by kernel_rfl) (by kernel_rfl) ?_
      simp (implicitDefEqProofs := false) only [↓reduceIte, go_sem, oread, owrite, Nat.reduceAdd, Nat.reduceLT, Nat.reduceLeDiff, Nat.reduceEqDiff, Int.reduceEq, reduceCtorEq, eq_self, t0, t1, t25, divI, modI, hwq, hwk, hwm, hRget, hdlt, hb, e1, e2]
      refine Rnd.same ⟨?_, ?_⟩
      · simp (implicitDefEqProofs := false) only [go_sem, eq_self, hRset, hw3, hfin]
      · simp (implicitDefEqProofs := false) only [↓reduceIte, go_sem, Nat.reduceLT, Nat.reduceEqDiff, reduceCtorEq, eq_self, t0, t1, t24, hw2]
    · have h8' : (((l.length % 8 : Nat) : Int) = 0) = False := eq_false (by omega)
      rw [packR_part h8] at *
      simp (implicitDefEqProofs := false) only [↓reduceIte, go_sem, oread, Nat.reduceAdd, Nat.reduceLT, Nat.reduceEqDiff, Int.reduceEq, reduceCtorEq, eq_self, wH, t0, t24, t25, hk, modI, h8']
      refine awp_drawK 25 K.mixed (by kernel_rfl) (by kernel_rfl) ?_
      simp (implicitDefEqProofs := false) only [↓reduceIte, go_sem, oread, owrite, Nat.reduceAdd, Nat.reduceLT, Nat.reduceLeDiff, Nat.reduceEqDiff, Int.reduceEq, reduceCtorEq, eq_self, t0, t1, t25, divI, modI, hwq, hwk, hwm, hRget, hdlt, hb, e1, e2]
      refine Rnd.same ⟨?_, ?_⟩
      · simp (implicitDefEqProofs := false) only [go_sem, eq_self, hRset, hw3, hfin]
      · simp (implicitDefEqProofs := false) only [↓reduceIte, go_sem, Nat.reduceLT, Nat.reduceEqDiff, reduceCtorEq, eq_self, t0, t1, t24, hw2]
  · rintro s H' ⟨rfl, t0, t1, t24, t25⟩
    simp (implicitDefEqProofs := false) only [↓reduceIte, go_sem, Nat.reduceLT, eq_self, t24, t25]
    rw [hE]
    exact ⟨_, Weak.refl _ _, by simp (implicitDefEqProofs := false) only [↓reduceIte, go_sem, Nat.reduceLT, eq_self]⟩
set_option maxRecDepth 10000 in
theorem wbytes_does (G : AHeap) (l : List Bool) (hl : l.length ≤ 100000000) : Does Tryz.prog 56 [.ptr G.length 0 0 0] (wH G l) (.ok (.d (.list false (bys (packB l))))) (wH G l) := by
  have := packB_len l
  generalize hE : wH G l = E
  have hE2 := hE
  rw [wH] at hE2
  refine Does.of_awp (hint := (fun _ => false)) Tryz.func56 (by kernel_rfl) rfl [2] (by kernel_rfl) (by decide) (by simp [Tryz.ntmps56]) ?_
  rw [Tryz.ntmps56]
  rw [← hE]
  simp (implicitDefEqProofs := false) only [↓reduceIte, go_sem, oread, Nat.reduceAdd, Nat.reduceLT, Nat.reduceLeDiff, Nat.reduceEqDiff, reduceCtorEq, eq_self, wH, show (bys (packB l)).take (packB l).length = bys (packB l) from take_len _ _ (bys_len _), bys_one, bys_len]
  refine ⟨by omega, by omega, AEnd.ret' (T := [.arr 5 1 1 (bys (packB l))]) (by simp) ?_⟩
  simp (implicitDefEqProofs := false) only [↓reduceIte, go_sem, Nat.reduceAdd, Nat.reduceLT, eq_self, show (bys (packB l)).take (packB l).length = bys (packB l) from take_len _ _ (bys_len _)]
def bitsL (l : List Nat) (w : Nat) : List Bool := l.flatMap fun n => bitsN n w
def packP (l : List Nat) (w : Nat) : List Nat := packB (bitsL l w)
theorem bitsL_snoc (l : List Nat) (n w : Nat) : bitsL (l ++ [n]) w = bitsL l w ++ bitsN n w := by simp [bitsL]
theorem bitsL_len (l : List Nat) (w : Nat) : (bitsL l w).length = l.length * w := by
  induction l with
  | nil => simp [bitsL]
  | cons x l ih =>
    have : bitsL (x :: l) w = bitsN x w ++ bitsL l w := rfl
    rw [this, List.length_append, ih, bitsN_len, List.length_cons, Nat.add_mul]; omega
set_option maxRecDepth 10000 in
set_option maxHeartbeats 1000000 in
theorem pack_does (l : List Nat) (w : Nat) (hw : w ≤ 64) (hn : ∀ n ∈ l, n < 2 ^ w) (hl : l.length ≤ 1000000) (nn : Bool) (H : AHeap) :
    Does Tryz.prog 21 [.d (.list nn (us l)), iA w] H (.ok (.tup [.d (.list false (bys (packP l w))), iA 0])) H := by
  have z0 : wH H [] = H ++ [.box 86 2 0 1 [.sl (H.length + 1) 0 0 0, iA 0], .arr 5 1 0 []] := rfl
  have h0 : 0 < 2 ^ w := Nat.two_pow_pos w
  have hbl := bitsL_len l w
  have hbig : l.length * w ≤ 1000000 * 64 := Nat.mul_le_mul hl hw
  refine Does.of_awp (hint := (fun t => t == 1000002 || t == 1000005 || t == 1000006)) Tryz.func21 (by kernel_rfl) rfl [4, 5] (by kernel_rfl) (by decide) (by simp [Tryz.ntmps21]) ?_
  rw [Tryz.ntmps21]
  simp (implicitDefEqProofs := false) only [↓reduceIte, go_sem, Nat.reduceAdd, Nat.reduceLT, Nat.reduceEqDiff, Nat.reduceBEq, eq_self]
  refine ⟨_, _, Weak.virtBox _ _ H.length 86 2 0 1 [.d (.v (.slice none 0 0)), iA 0] 0 _ 5 1 (by decide) (by simp) rfl rfl, ?_⟩
  simp (implicitDefEqProofs := false) only [↓reduceIte, go_sem, Nat.reduceLT, Nat.reduceEqDiff, eq_self]
  rw [← z0]
  refine KCall.ok (wput_does 0 w hw h0 H [] (by simp)) ?_
  simp (implicitDefEqProofs := false) only [↓reduceIte, go_sem, Nat.reduceAdd, Nat.reduceLT, Nat.reduceEqDiff, Nat.reduceBEq, eq_self]
  refine ⟨_, _, (by unfold wH; exact Weak.drop H _ _), ?_⟩
  simp (implicitDefEqProofs := false) only [↓reduceIte, go_sem, Nat.reduceLT]
  refine ⟨_, _, Weak.virtBox _ _ H.length 86 2 0 1 [.d (.v (.slice none 0 0)), iA 0] 0 _ 5 1 (by decide) (by simp) rfl rfl, ?_⟩
  simp (implicitDefEqProofs := false) only [↓reduceIte, go_sem, reduceCtorEq, us_len]
  rw [← z0]
  refine awp_for (fun k s H' => H' = wH H (bitsL (l.take k) w) ∧ s 1 = iA w ∧ s 6 = .ptr H.length 0 0 0 ∧ s 21 = .d (.list nn (us l)) ∧ s 22 = iA l.length ∧ s 23 = iA k) l.length (by omega) (Weak.refl _ _) ?_ ?_ ?_
  · refine ⟨by simp [bitsL], ?_⟩
    simp (implicitDefEqProofs := false) only [↓reduceIte, go_sem, Nat.reduceLT, Nat.reduceEqDiff, reduceCtorEq, eq_self]
  · rintro k s H' hk hw2 ⟨rfl, t1, t6, t21, t22, t23⟩
    have hx := us_get l k hk
    have e1 := List.take_succ_eq_append_getElem hk
    have hc := hn _ (List.getElem_mem hk)
    have e2 : bitsL (l.take (k + 1)) w = bitsL (l.take k) w ++ bitsN l[k] w := by rw [e1, bitsL_snoc]
    have e3 := bitsL_len (l.take k) w
    have e4 : (l.take k).length * w ≤ 1000000 * 64 := Nat.mul_le_mul (by simp; omega) hw
    generalize l[k] = x at hx hc e2
    simp (implicitDefEqProofs := false) only [↓reduceIte, go_sem, Nat.reduceAdd, Nat.reduceLT, Nat.reduceEqDiff, Nat.reduceBEq, eq_self, t1, t6, t21, t22, t23, hk, hx]
    refine KCall.ok (wput_does x w hw hc H _ (by omega)) ?_
    simp (implicitDefEqProofs := false) only [↓reduceIte, go_sem, Nat.reduceAdd, Nat.reduceLT, Nat.reduceEqDiff, Nat.reduceBEq, eq_self, t23]
    refine Rnd.same ⟨by rw [e2], ?_⟩
    simp (implicitDefEqProofs := false) only [↓reduceIte, go_sem, Nat.reduceLT, Nat.reduceEqDiff, eq_self, t1, t6, t21, t22, hw2]
  · rintro s H' ⟨rfl, t1, t6, t21, t22, t23⟩
    rw [List.take_length]
    simp (implicitDefEqProofs := false) only [↓reduceIte, go_sem, Nat.reduceAdd, Nat.reduceLT, Nat.reduceEqDiff, Nat.reduceBEq, eq_self, t6, t22, t23]
    refine KCall.ok (wbytes_does H (bitsL l w) (by omega)) ?_
    simp (implicitDefEqProofs := false) only [↓reduceIte, go_sem, Nat.reduceLT, eq_self]
    unfold wH
    refine AEnd.ret ?_
    simp (implicitDefEqProofs := false) only [↓reduceIte, go_sem, Nat.reduceLT, Nat.reduceEqDiff, eq_self, packP]
end Go.Proofs.YtkapgooedfompaaGreat
namespace Go.Proofs.YtkapgooedfompaaGreatAw
open Go.RowKit
set_option linter.unusedVariables false
set_option linter.unusedSimpArgs false
def mPan (v : Value) : FrameMode := .panicking [{ v := v, recovered := false }]
def mRec (v : Value) : FrameMode := .panicking [{ v := v, recovered := true }]
/-- What recover answers in a mode, and the mode afterwards. -/
inductive Mode : FrameMode → Value → FrameMode → Prop
  | ret : Mode .returning .nilIface .returning
  | pan (v : Value) : Mode (mPan v) v (mRec v)
/-- The contract of a deferred function: it ends well, and leaves its caller in such a mode. -/
def DoesD (P : Program) (f : FuncId) (args : List AV) (H : AHeap) (u : FrameMode) (H' : AHeap) (u' : FrameMode) : Prop :=
  ∀ φ N w vals, Rel H φ N w → RAs H φ N w args vals → (callFunc f vals).run P w = .ok (.enter f vals) w ∧
    CallsD P f vals u w fun e u1 w' => (∃ v, e = .returned v) ∧ u1 = u' ∧ ∃ φ' N', Rel H' φ' N' w' ∧ Since H φ N w H' φ' N' w'

theorem RAs.init {H : AHeap} {φ : Phi} {N : Addr → Prop} {w : World} {args : List AV} {vals : Array Value} (h : RAs H φ N w args vals) (n : Nat) : TRel H φ N w (ainit args) { tmps := vals ++ Array.replicate (n - vals.size) undef, defers := [] } := by
  intro t
  simp only [ainit]
  by_cases ht : t < args.length
  · have ht' : t < vals.size := by rw [← h.1]; exact ht
    have := h.2 t ht ht'
    have e1 : args.getD t .top = args[t] := by simp [List.getD, ht]
    have e2 : (vals ++ Array.replicate (n - vals.size) undef).getD t undef = vals[t] := by
      rw [Array.getD_eq_getD_getElem?, Array.getElem?_append_left ht']; simp [ht']
    rw [e1, e2]
    exact this
  · have e1 : args.getD t .top = .top := by simp [List.getD, List.getElem?_eq_none (Nat.le_of_not_lt ht)]
    rw [e1]
    exact .top _
theorem RAs.since {H H' : AHeap} {φ φ' : Phi} {N N' : Addr → Prop} {w w' : World} {args : List AV} {vals : Array Value} (h : RAs H φ N w args vals) (hR : Rel H φ N w) (hS : Since H φ N w H' φ' N' w') : RAs H' φ' N' w' args vals :=
  ⟨h.1, fun i h1 h2 => (h.2 i h1 h2).since hR hS⟩

theorem DoesD.of_awp {P : Program} {hint : Nat → Bool} {f : FuncId} {fn : Func} {id : Nat} {o0 o1 : Oper} {rest : Code} {d0 d1 : Tmp} (hf : P.funcs[f]? = some fn) (hn : (fn.name == "runtime.NumGoroutine") = false) (hb : fn.body = some (.seq (.region id #[o0, o1] false) rest))
    (h0 : ∃ ats, o0.op = .call { callee := .builtin .recover, args := #[], argTypes := ats }) (g0 : o0.guard = none) (e0 : o0.dst = some d0) (h1 : o1.op = .assign (.tmp d0)) (g1 : o1.guard = none) (e1 : o1.dst = some d1) (hl : d0 < fn.ntmps) (hr : fn.results = #[])
    {args : List AV} {H H' : AHeap} {u u' : FrameMode} {v : Value} (ha : args.length ≤ fn.ntmps) (hm : Mode u v u')
    (h : awp P hint fn.ntmps H rest (fun e s H1 => (match e with | .normal | .ret => True | _ => False) ∧ ∃ s', Weak H s H1 s' H') (aput fn.ntmps (aput fn.ntmps (ainit args) (some d0) (aconst v)) (some d1) (aconst v)) H) : DoesD P f args H u H' u' := by
  intro φ N w vals hR hA
  refine ⟨enter_run hf hn (by rw [hb]; rfl) vals w, callsD_of_wpS hf hb fun c0 cs hc0 => wpS_seq (wpS_region ?_)⟩
  have hI : Inv H φ N w fn.ntmps [] (aput fn.ntmps (aput fn.ntmps (ainit args) (some d0) (aconst v)) (some d1) (aconst v)) H φ N (({ tmps := vals ++ Array.replicate (fn.ntmps - vals.size) undef, defers := [] } : Act).put (some d0) v |>.put (some d1) v) w := by
    have h : Inv H φ N w fn.ntmps [] (ainit args) H φ N { tmps := vals ++ Array.replicate (fn.ntmps - vals.size) undef, defers := [] } w :=
      ⟨hR, hA.init _, Since.refl, by simp; have := hA.1; omega, rfl⟩
    exact (h.put hR Since.refl (aconst_ok v) (some d0)).put hR Since.refl (aconst_ok v) (some d1)
  have hrec : ∃ cs', (match recoverD (c0 :: cs) with | some (x, cs') => (x, cs') | none => (Value.nilIface, c0 :: cs)) = (v, cs') ∧ cs' = { c0 with mode := u' } :: cs := by
    subst hc0
    generalize hu : c0.mode = u at hm
    cases hm with
    | ret => exact ⟨c0 :: cs, by simp [recoverD, hu], by rw [← hu]⟩
    | pan v => exact ⟨_, by simp [recoverD, hu, mPan]; rfl, rfl⟩
  obtain ⟨cs', hrec, hcs⟩ := hrec
  have hwp := awp_ok hR rest _ hI h
  let R : Ending → FrameMode → World → Prop := fun e u1 w' => (∃ v, e = .returned v) ∧ u1 = u' ∧ ∃ φ' N', Rel H' φ' N' w' ∧ Since H φ N w H' φ' N' w'
  have hS : Code.wpS P rest (bodyPostS P fn c0 cs R) ((({ tmps := vals ++ Array.replicate (fn.ntmps - vals.size) undef, defers := [] } : Act).put (some d0) v).put (some d1) v) cs' w := by
    refine wpS_of_wp (wp_mono hwp ?_)
    rintro e a' w' ⟨ax, s', H1, φ1, N1, rfl, ⟨hq, s'', hW⟩, hI1⟩
    obtain ⟨φ2, N2, hI2⟩ := hW.ok hR hI1
    have fin : a'.defers = [] ∧ ∃ u1, cs' = { c0 with mode := u1 } :: cs ∧ ∃ v, (results fn a'.tmps).run P w' = .ok v w' ∧ R (.returned v) u1 w' :=
      ⟨hI2.defers, u', hcs, _, run_results [] (by rw [hr]; rfl) (by simp) _ _, ⟨_, rfl⟩, rfl, φ2, N2, hI2.rel, hI2.since⟩
    cases ax with
    | normal => exact fin
    | ret => exact fin
    | exit i => exact hq.elim
    | panic v => exact hq.elim
  have tail : wpOpsS P #[o0, o1] (Exit.thenS (Code.wpS P rest (bodyPostS P fn c0 cs R)) (bodyPostS P fn c0 cs R)) [1]
      (({ tmps := vals ++ Array.replicate (fn.ntmps - vals.size) undef, defers := [] } : Act).put (some d0) v) cs' w := by
    have hev : (({ tmps := vals ++ Array.replicate (fn.ntmps - vals.size) undef, defers := [] } : Act).put (some d0) v).eval (.tmp d0) = v := by
      have : d0 < vals.size + (fn.ntmps - vals.size) := Nat.lt_of_lt_of_le hl (by omega)
      simp [Act.eval, Act.put, this]
    have hx : (execOp (({ tmps := vals ++ Array.replicate (fn.ntmps - vals.size) undef, defers := [] } : Act).put (some d0) v).eval o1).run P w = .ok (.value v) w := by
      simp only [execOp, h1, hev]; rfl
    have hw : Region.wanted o1 (yielded #[o0, o1] (({ tmps := vals ++ Array.replicate (fn.ntmps - vals.size) undef, defers := [] } : Act).put (some d0) v).tmps) = true := by simp [Region.wanted, g1]
    simp only [wpOpsS, List.getElem?_toArray, List.getElem?_cons_succ, List.getElem?_cons_zero, hw, if_true, hx, Oper.upon, e1]
    exact hS
  obtain ⟨ats, h0⟩ := h0
  have hx : (execOp (({ tmps := vals ++ Array.replicate (fn.ntmps - vals.size) undef, defers := [] } : Act)).eval o0).run P w = .ok .recover w := by
    simp only [execOp, h0, resolve, invoke]
    rfl
  have hw : Region.wanted o0 (yielded #[o0, o1] (({ tmps := vals ++ Array.replicate (fn.ntmps - vals.size) undef, defers := [] } : Act)).tmps) = true := by simp [Region.wanted, g0]
  show wpOpsS P #[o0, o1] _ [0, 1] _ _ _
  unfold wpOpsS
  simp only [List.getElem?_toArray, List.getElem?_cons_zero, hw, if_true, hx, e0]
  revert hrec
  cases recoverD (c0 :: cs) with
  | none =>
    intro hrec
    have e1 : Value.nilIface = v := congrArg Prod.fst hrec
    have e2 : c0 :: cs = cs' := congrArg Prod.snd hrec
    simp only [e1, e2]
    exact tail
  | some p =>
    intro hrec
    have e1 : p.1 = v := congrArg Prod.fst hrec
    have e2 : p.2 = cs' := congrArg Prod.snd hrec
    simp only [e1, e2]
    exact tail

/-- What is left of a function where its body has ended and its deferred call is still to come. -/
def AEndD (P : Program) (rs : List ResultVar) (H0 : AHeap) (res : ARes) (H' : AHeap) (g : FuncId) (dargs : List AV) : Post := fun e s H =>
  match e with
  | .normal | .ret => ∃ H1, DoesD P g dargs H .returning H1 .returning ∧ AEndC P rs H0 res H' .ret s H1
  | .panic v => ∃ H1, DoesD P g dargs H (mPan v) H1 (mRec v) ∧ AEndC P rs H0 res H' .ret s H1
  | _ => False
theorem finC {P : Program} {fn : Func} {rs : List ResultVar} (hr : fn.results.toList = rs) {H : AHeap} {φ : Phi} {N : Addr → Prop} {w : World} (hR : Rel H φ N w) {res : ARes} {H' : AHeap} {n : Nat} {ds : List Deferred} {s' : Nat → AV} {H1 : AHeap} {φ1 : Phi} {N1 : Addr → Prop} {a' : Act} {w' : World}
    (hI1 : Inv H φ N w n ds s' H1 φ1 N1 a' w') (h : AEndC P rs H res H' .ret s' H1) : ∃ v, (results fn a'.tmps).run P w' = .ok v w' ∧ ∃ φ' N', Rel H' φ' N' w' ∧ Since H φ N w H' φ' N' w' ∧ REnd H' φ' N' w' res (.returned v) := by
  obtain ⟨avs, s'', hav, hW, rfl⟩ := h
  obtain ⟨us, hus, hl, hru⟩ := resAll_ok hI1.rel hI1.tmps hav
  have hI2 : Inv H φ N w us.length [] (fun t => avs.getD t .top) H1 φ1 N1 { tmps := us.toArray, defers := [] } w' := by
    refine ⟨hI1.rel, fun t => ?_, hI1.since, by simp, rfl⟩
    by_cases ht : t < avs.length
    · have e1 : avs.getD t .top = avs[t] := by simp [List.getD, ht]
      have e2 : (us.toArray : Array Value).getD t undef = us[t]'(by omega) := by
        rw [Array.getD_eq_getD_getElem?]; simp [show t < us.length by omega]
      simp only [e1, e2]
      exact hru t ht (by omega)
    · have e1 : avs.getD t .top = .top := by simp [List.getD, List.getElem?_eq_none (Nat.le_of_not_lt ht)]
      simp only [e1]
      exact .top _
  obtain ⟨φ2, N2, hI3⟩ := hW.ok hR hI2
  refine ⟨_, results_run (by rw [hr]; exact hus), φ2, N2, hI3.rel, hI3.since, ?_⟩
  have at_ : ∀ t, RA H' φ2 N2 w' (s'' t) ((us.toArray : Array Value).getD t undef) := hI3.tmps
  show RA H' φ2 N2 w' (ares (List.range avs.length) s'') _
  match us, hl with
  | [], hl =>
    have : avs = [] := List.eq_nil_of_length_eq_zero hl
    subst this
    exact .tup _ _ rfl fun i h1 => by simp at h1
  | [u], hl =>
    have : avs.length = 1 := hl
    rw [this]
    exact at_ 0
  | u :: v :: l, hl =>
    have e : ares (List.range avs.length) s'' = .tup ((List.range avs.length).map s'') := ares_many _ (by simp [hl]) s''
    rw [e]
    refine .tup _ _ (by simp [hl]) fun i h1 h2 => ?_
    have := at_ i
    rw [Array.getD_eq_getD_getElem?] at this
    simp only [List.size_toArray] at h2
    rw [List.getElem?_toArray, List.getElem?_eq_getElem h2] at this
    simpa using this
/-- The contract of a function that defers one call, out of its body. -/
theorem Does.of_awpD {P : Program} {hint : Nat → Bool} {f : FuncId} {fn : Func} {pre rest : Code} {id : Nat} {o : Oper} {c : Call} {f0 : Operand} (hf : P.funcs[f]? = some fn) (hn : (fn.name == "runtime.NumGoroutine") = false) (hb : fn.body = some (.seq pre (.seq (.region id #[o] false) rest)))
    (rs : List ResultVar) (hr : fn.results.toList = rs) (ho : o.op = .defer c) (hc : c.callee = .value f0) (hg : o.guard = none) (hd : o.dst = none)
    {args : List AV} {H : AHeap} {res : ARes} {H' : AHeap} (ha : args.length ≤ fn.ntmps)
    (h : awp P hint fn.ntmps H pre (fun e s H1 => match e with
      | .normal => ob (asF (aeval s f0)) fun g => awp P hint fn.ntmps H1 rest (AEndD P rs H res H' g.1 (c.args.toList.map (aeval s) ++ g.2)) s H1
      | _ => False) (ainit args) H) : Does P f args H res H' := by
  intro φ N w vals hR hA
  refine .inl ⟨enter_run hf hn (by rw [hb]; rfl) vals w, calls_of_wp_defers hf hb ?_⟩
  have hI : Inv H φ N w fn.ntmps [] (ainit args) H φ N { tmps := vals ++ Array.replicate (fn.ntmps - vals.size) undef, defers := [] } w :=
    ⟨hR, hA.init _, Since.refl, by simp; have := hA.1; omega, rfl⟩
  refine wp_seq (wp_mono (awp_ok hR pre _ hI h) ?_)
  rintro e a1 w1 ⟨ax, s1, H1, φ1, N1, rfl, hq, hI1⟩
  cases ax with
  | normal =>
    cases hfv : asF (aeval s1 f0) with
    | none => simp only [hfv] at hq; exact hq.elim
    | some gc =>
    obtain ⟨g, caps⟩ := gc
    simp only [hfv] at hq
    have hf0 : aeval s1 f0 = .fn g caps := by
      revert hfv
      cases aeval s1 f0 <;> intro h <;> cases h
      rfl
    have hfv' := aeval_ok hI1.tmps f0
    rw [hf0] at hfv'
    generalize hfe : a1.eval f0 = fv at hfv'
    cases hfv' with
    | fn _ _ vs hl hh =>
    have hargs : RAs H1 φ1 N1 w1 (c.args.toList.map (aeval s1) ++ caps) (c.args.map a1.eval ++ vs) := by
      refine ⟨by simp [hl], fun i h1 h2 => ?_⟩
      by_cases hi : i < c.args.size
      · rw [List.getElem_append_left (by simpa using hi), Array.getElem_append_left (by simpa using hi)]
        simp only [List.getElem_map, Array.getElem_map, Array.getElem_toList]
        exact aeval_ok hI1.tmps _
      · rw [List.getElem_append_right (by simpa using hi), Array.getElem_append_right (by simpa using hi)]
        simp only [List.length_map, Array.length_toList, Array.size_map]
        exact hh _ (by simp at h1; omega) (by simp at h2; omega)
    let d : Deferred := { target := .fn (.func g) vs, args := c.args.map a1.eval }
    have hrun : (execOp a1.eval o).run P w1 = .ok (.defer d) w1 := by
      simp [execOp, ho, resolve, hc, hfe, Deferred.ofValue, d]
    have hI1' : Inv H1 φ1 N1 w1 fn.ntmps [d] s1 H1 φ1 N1 { a1 with defers := [d] } w1 := ⟨hI1.rel, hI1.tmps, Since.refl, hI1.size, rfl⟩
    refine wp_seq (wp_region ?_)
    have hwpR := awp_ok hI1.rel rest _ hI1' hq
    have hw : Region.wanted o (yielded #[o] a1.tmps) = true := by simp [Region.wanted, hg]
    show wpOps P #[o] _ [0] a1 w1
    simp only [wpOps, List.getElem?_toArray, List.getElem?_cons_zero, hw, if_true]
    refine .inl ?_
    unfold Oper.wp
    rw [hrun, Oper.upon_defer, hd, hI1.defers]
    show (Code.wp P rest _ { a1 with defers := [d] } w1)
    refine wp_mono hwpR ?_
    rintro e a2 w2 ⟨ax, s2, H2, φ2, N2, rfl, hq2, hI2⟩
    have hargs2 := hargs.since hI1.rel hI2.since
    have run : ∀ u u' H3, u ≠ .run → settle u' = .returning → DoesD P g (c.args.toList.map (aeval s1) ++ caps) H2 u H3 u' → AEndC P rs H res H' .ret s2 H3 →
        Leaves P fn a2.tmps (fun e w' => ∃ φ' N', Rel H' φ' N' w' ∧ Since H φ N w H' φ' N' w' ∧ REnd H' φ' N' w' res e) a2.defers u w2 := by
      intro u u' H3 hu hs hD hE
      obtain ⟨hcall, hC⟩ := hD φ2 N2 w2 _ hI2.rel hargs2
      rw [hI2.defers]
      refine leaves_cons hu (by simpa [invoke] using hcall) (CallsD.mono hC ?_)
      rintro e u1 w3 ⟨⟨v, rfl⟩, rfl, φ3, N3, hR3, hS3⟩
      simp only [hs]
      exact finC hr hR (ds := [d]) (a' := a2) (n := fn.ntmps) ⟨hR3, fun t => (hI2.tmps t).since hI2.rel hS3, hI1.since.trans (hI2.since.trans hS3), hI2.size, hI2.defers⟩ hE
    cases ax with
    | normal =>
      obtain ⟨H3, hD, hE⟩ := hq2
      exact run .returning .returning H3 (by simp) rfl hD hE
    | ret =>
      obtain ⟨H3, hD, hE⟩ := hq2
      exact run .returning .returning H3 (by simp) rfl hD hE
    | exit i => exact hq2.elim
    | panic v =>
      obtain ⟨H3, hD, hE⟩ := hq2
      exact run (mPan v) (mRec v) H3 (by simp [mPan]) rfl hD hE
  | exit i => exact hq.elim
  | ret => exact hq.elim
  | panic v => exact hq.elim
end Go.Proofs.YtkapgooedfompaaGreatAw
namespace Go.Proofs.YtkapgooedfompaaGreat
open Go.Proofs.YtkapgooedfompaaGreatAw Go.RowKit
set_option linter.unusedVariables false
set_option linter.unusedSimpArgs false
def noS : ByteArray := ⟨#[]⟩
theorem sameV_noS (v : Val) : sameV v.kind v.i v.s 0 0 noS = decide (v = ⟨0, 0, noS⟩) := sameV_eq v ⟨0, 0, noS⟩
theorem noS_toList : noS.toList = [] := by rw [ByteArray.toList_eq]; rfl
theorem toList_nil_size (s : ByteArray) : s.toList = [] ↔ s = noS := ⟨fun h => toList_inj (by rw [h, noS_toList]), fun h => by rw [h]; exact noS_toList⟩
theorem zero_iff (v : Val) (h0 : v.kind = 0) : (v = ⟨0, 0, noS⟩) = (v.i = 0 ∧ v.s.toList = []) := by
  cases v with | mk k i s =>
  simp only at h0
  subst h0
  simp [toList_nil_size]
end Go.Proofs.YtkapgooedfompaaGreat
namespace Go.Proofs.YtkapgooedfompaaGreat
open Go.Proofs.YtkapgooedfompaaGreatAw Go.RowKit
set_option linter.unusedVariables false
set_option linter.unusedSimpArgs false
def mayV (v : Val) : Bool := if v.kind = 2 then decide (toU v.i = cleanN (toU v.i)) && decide (v.s.toList = []) else if v.kind = 1 then decide (v.s.toList = []) else if v.kind = 3 then decide (v.i = 0) && decide (v.s.size ≤ 1024) else if v.kind = 0 then decide (v.i = 0) && decide (v.s.toList = []) else false
set_option maxRecDepth 10000 in
set_option maxHeartbeats 1000000 in
theorem mayV_does (v : Val) (H : AHeap) : Does Tryz.prog 49 [v.av] H (.ok (bA (mayV v))) H := by
  have e0 : ∀ x : ByteArray, (x.toList == (⟨#[]⟩ : ByteArray).toList) = decide (x.toList = []) := fun x => by
    rw [show (⟨#[]⟩ : ByteArray).toList = [] from noS_toList]; rw [Bool.eq_iff_iff]; simp
  refine Does.of_awp (hint := (fun _ => false)) Tryz.func49 (by kernel_rfl) rfl [2] (by kernel_rfl) (by decide) (by simp [Tryz.ntmps49]) ?_
  rw [Tryz.ntmps49]
  by_cases h2 : v.kind = 2
  · simp (implicitDefEqProofs := false) only [↓reduceIte, go_sem, oread, Nat.reduceAdd, Nat.reduceLT, Nat.reduceLeDiff, Nat.reduceEqDiff, eq_self, h2]
    refine awp_draw K.mixed (by kernel_rfl) ?_
    simp (implicitDefEqProofs := false) only [↓reduceIte, go_sem, oread, Nat.reduceAdd, Nat.reduceLT, Nat.reduceLeDiff, Nat.reduceEqDiff, eq_self, wrap_toU]
    refine KCall.ok (fclean_does _ (toU_lt _) _) ?_
    simp (implicitDefEqProofs := false) only [↓reduceIte, go_sem, Nat.reduceLT, Nat.reduceEqDiff, eq_self, Int.natCast_inj]
    cases hc : decide (toU v.i = cleanN (toU v.i)) with
    | true =>
      simp (implicitDefEqProofs := false) only [↓reduceIte, go_sem, oread, Nat.reduceAdd, Nat.reduceLT, Nat.reduceEqDiff, eq_self, e0]
      refine AEnd.ret ?_
      simp (implicitDefEqProofs := false) only [↓reduceIte, go_sem, Nat.reduceLT, eq_self, mayV, h2, hc]
    | false =>
      simp (implicitDefEqProofs := false) only [↓reduceIte, go_sem, Nat.reduceLT, Nat.reduceEqDiff, reduceCtorEq, eq_self]
      refine AEnd.ret ?_
      simp (implicitDefEqProofs := false) only [↓reduceIte, go_sem, Nat.reduceLT, eq_self, mayV, h2, hc]
  by_cases h1 : v.kind = 1
  · simp (implicitDefEqProofs := false) only [↓reduceIte, go_sem, oread, Nat.reduceAdd, Nat.reduceLT, Nat.reduceLeDiff, Nat.reduceEqDiff, Int.reduceEq, eq_self, h1, e0]
    refine AEnd.ret ?_
    simp (implicitDefEqProofs := false) only [↓reduceIte, go_sem, Nat.reduceLT, Int.reduceEq, eq_self, mayV, h1]
  by_cases h3 : v.kind = 3
  · by_cases hi : v.i = 0
    · simp (implicitDefEqProofs := false) only [↓reduceIte, go_sem, oread, Nat.reduceAdd, Nat.reduceLT, Nat.reduceLeDiff, Nat.reduceEqDiff, Int.reduceEq, eq_self, h3, hi]
      refine AEnd.ret ?_
      simp (implicitDefEqProofs := false) only [↓reduceIte, go_sem, Nat.reduceLT, Int.reduceEq, eq_self, mayV, h3, hi, show ((v.s.size : Int) ≤ 1024) = (v.s.size ≤ 1024) from by simp; omega]
    · simp (implicitDefEqProofs := false) only [↓reduceIte, go_sem, oread, Nat.reduceAdd, Nat.reduceLT, Nat.reduceLeDiff, Nat.reduceEqDiff, Int.reduceEq, reduceCtorEq, eq_self, h3, hi]
      refine AEnd.ret ?_
      simp (implicitDefEqProofs := false) only [↓reduceIte, go_sem, Nat.reduceLT, Int.reduceEq, eq_self, mayV, h3, hi]
  by_cases h0 : v.kind = 0
  · have e1 : sameV v.kind v.i v.s 0 0 ⟨#[]⟩ = (decide (v.i = 0) && decide (v.s.toList = [])) := by
      rw [show sameV v.kind v.i v.s 0 0 ⟨#[]⟩ = decide (v = ⟨0, 0, noS⟩) from sameV_noS v]
      simp only [zero_iff v h0, Bool.decide_and]
    simp (implicitDefEqProofs := false) only [↓reduceIte, go_sem, oread, Nat.reduceAdd, Nat.reduceLT, Nat.reduceLeDiff, Nat.reduceEqDiff, eq_self, h1, h2, h3, eq_true h0, e1]
    refine AEnd.ret ?_
    simp (implicitDefEqProofs := false) only [↓reduceIte, go_sem, Nat.reduceLT, eq_self, mayV, h1, h2, h3, eq_true h0]
  simp (implicitDefEqProofs := false) only [↓reduceIte, go_sem, oread, Nat.reduceAdd, Nat.reduceLT, Nat.reduceLeDiff, Nat.reduceEqDiff, reduceCtorEq, eq_self, h0, h1, h2, h3]
  refine AEnd.ret ?_
  simp (implicitDefEqProofs := false) only [↓reduceIte, go_sem, Nat.reduceLT, eq_self, mayV, h0, h1, h2, h3]
end Go.Proofs.YtkapgooedfompaaGreat
namespace Go.Proofs.YtkapgooedfompaaGreat
open Go.Proofs.YtkapgooedfompaaGreatAw Go.RowKit
set_option linter.unusedVariables false
set_option linter.unusedSimpArgs false
def idxP {α : Type} (p : α → Bool) (l : List α) : Int := if l.any p then (l.findIdx p : Nat) else -1
theorem idxP_hit {α : Type} {p : α → Bool} {l : List α} {k : Nat} (h : ∀ i (hi : i < k) (hl : i < l.length), p l[i] = false) (hk : k < l.length) (hp : p l[k] = true) : idxP p l = k := by
  unfold idxP
  rw [if_pos (List.any_eq_true.2 ⟨l[k], List.getElem_mem hk, hp⟩)]
  congr 1
  exact (List.findIdx_eq hk).2 ⟨hp, fun j hj => h j hj (by omega)⟩
theorem any_none {α : Type} {p : α → Bool} {l : List α} (h : ∀ i (hi : i < l.length), p l[i] = false) : l.any p = false := by
  rw [List.any_eq_false]
  intro x hx
  obtain ⟨i, hi, rfl⟩ := List.mem_iff_getElem.1 hx
  simp [h i hi]
theorem any_hit {α : Type} {p : α → Bool} {l : List α} {k : Nat} (hk : k < l.length) (h : p l[k] = true) : l.any p = true := List.any_eq_true.2 ⟨l[k], List.getElem_mem hk, h⟩
theorem idxP_none {α : Type} {p : α → Bool} {l : List α} (h : ∀ i (hi : i < l.length), p l[i] = false) : idxP p l = -1 := by
  unfold idxP
  rw [any_none h]
  rfl
theorem idxP_pos {α : Type} (p : α → Bool) (l : List α) : (0 ≤ idxP p l) = (l.any p = true) := by
  unfold idxP
  cases h : l.any p with
  | true => simp
  | false => simp
set_option maxRecDepth 10000 in
set_option maxHeartbeats 1000000 in
theorem indexV_does (l : List Val) (p : Val → Bool) (g : FuncId) (caps : List AV) (n1 : Bool) (H : AHeap) (hl : l.length ≤ 9223372036854775807) (hf : ∀ v ∈ l, Does Tryz.prog g ([v.av] ++ caps) H (.ok (bA (p v))) H) :
    Does Tryz.prog 45 [.d (.list n1 (l.map Val.enc)), .fn g caps] H (.ok (iA (idxP p l))) H := by
  refine Does.of_awp (hint := (fun _ => false)) Tryz.func45 (by kernel_rfl) rfl [4] (by kernel_rfl) (by decide) (by simp [Tryz.ntmps45]) ?_
  rw [Tryz.ntmps45]
  simp (implicitDefEqProofs := false) only [↓reduceIte, go_sem, Nat.reduceLT, Int.reduceNeg, reduceCtorEq, eq_self]
  refine awp_for (fun k s H' => H' = H ∧ (∀ i (hi : i < k) (hl : i < l.length), p l[i] = false) ∧ s 0 = .d (.list n1 (l.map Val.enc)) ∧ s 1 = .fn g caps ∧ s 7 = iA l.length ∧ s 8 = iA k) l.length hl (Weak.refl _ _) ?_ ?_ ?_
  · refine ⟨rfl, fun i hi => by omega, ?_⟩
    simp (implicitDefEqProofs := false) only [↓reduceIte, go_sem, Nat.reduceLT, Nat.reduceEqDiff, reduceCtorEq, eq_self]
  · rintro k s H' hk hw ⟨rfl, hp, h0, h1, h7, h8⟩
    have hx := List.getElem?_eq_getElem hk
    have hit : p l[k] = true → idxP p l = k := fun h => idxP_hit hp hk h
    have hpp : p l[k] = false → ∀ i (hi : i < k + 1) (hl : i < l.length), p l[i] = false := fun h0 i hi hl' => by
      rcases Nat.lt_or_ge i k with h | h
      · exact hp i h hl'
      · obtain rfl : i = k := by omega
        exact h0
    have hfk := hf l[k] (List.getElem_mem hk)
    generalize l[k] = v at hx hit hpp hfk
    simp (implicitDefEqProofs := false) only [↓reduceIte, go_sem, Nat.reduceAdd, Nat.reduceLT, Nat.reduceEqDiff, reduceCtorEq, eq_self, h0, h1, h7, h8, hk, hx, Val.enc]
    refine KCall.ok hfk ?_
    cases hv : p v with
    | true =>
      simp (implicitDefEqProofs := false) only [↓reduceIte, go_sem, Nat.reduceLT, Nat.reduceEqDiff, eq_self]
      refine AEnd.ret0 ?_
      simp (implicitDefEqProofs := false) only [↓reduceIte, go_sem, Nat.reduceLT, eq_self, hit hv]
    | false =>
      simp (implicitDefEqProofs := false) only [↓reduceIte, go_sem, Nat.reduceLT, Nat.reduceEqDiff, eq_self, h8]
      refine Rnd.same ⟨rfl, hpp hv, ?_⟩
      simp (implicitDefEqProofs := false) only [↓reduceIte, go_sem, Nat.reduceLT, Nat.reduceEqDiff, reduceCtorEq, eq_self, h0, h1, h7, hw]
  · rintro s H' ⟨rfl, hp, h0, h1, h7, h8⟩
    simp (implicitDefEqProofs := false) only [↓reduceIte, go_sem, Nat.reduceLT, Int.reduceNeg, eq_self, h7, h8]
    refine AEnd.ret0 ?_
    simp (implicitDefEqProofs := false) only [↓reduceIte, go_sem, Nat.reduceLT, Int.reduceNeg, eq_self, idxP_none fun i hi => hp i hi hi]
set_option maxRecDepth 10000 in
theorem containsV_does (l : List Val) (p : Val → Bool) (g : FuncId) (caps : List AV) (n1 : Bool) (H : AHeap) (hl : l.length ≤ 9223372036854775807) (hf : ∀ v ∈ l, Does Tryz.prog g ([v.av] ++ caps) H (.ok (bA (p v))) H) :
    Does Tryz.prog 51 [.d (.list n1 (l.map Val.enc)), .fn g caps] H (.ok (bA (l.any p))) H := by
  refine Does.of_awp (hint := (fun _ => false)) Tryz.func51 (by kernel_rfl) rfl [4] (by kernel_rfl) (by decide) (by simp [Tryz.ntmps51]) ?_
  rw [Tryz.ntmps51]
  simp (implicitDefEqProofs := false) only [↓reduceIte, go_sem, Nat.reduceLT, Nat.reduceEqDiff, reduceCtorEq, eq_self]
  refine KCall.ok (indexV_does l p g caps n1 H hl hf) ?_
  simp (implicitDefEqProofs := false) only [↓reduceIte, go_sem, Nat.reduceLT, eq_self, idxP_pos]
  refine AEnd.ret0 ?_
  simp (implicitDefEqProofs := false) only [↓reduceIte, go_sem, Nat.reduceLT, eq_self, Bool.decide_eq_true]
end Go.Proofs.YtkapgooedfompaaGreat
namespace Go.Proofs.YtkapgooedfompaaGreat
open Go.Proofs.YtkapgooedfompaaGreatAw Go.RowKit
set_option linter.unusedVariables false
set_option linter.unusedSimpArgs false
def kindsP (k : Int) : Bool := decide (1 ≤ k) && decide (k ≤ 3)
set_option maxRecDepth 10000 in
theorem kinds_does (k : Int) (H : AHeap) : Does Tryz.prog 50 [iA k] H (.ok (bA (kindsP k))) H := by
  refine Does.of_awp (hint := (fun _ => false)) Tryz.func50 (by kernel_rfl) rfl [2] (by kernel_rfl) (by decide) (by simp [Tryz.ntmps50]) ?_
  rw [Tryz.ntmps50]
  by_cases h : 1 ≤ k
  · simp (implicitDefEqProofs := false) only [↓reduceIte, go_sem, Nat.reduceLT, Nat.reduceEqDiff, reduceCtorEq, eq_self, h]
    refine AEnd.ret0 ?_
    simp (implicitDefEqProofs := false) only [↓reduceIte, go_sem, Nat.reduceLT, eq_self, kindsP, h]
  · simp (implicitDefEqProofs := false) only [↓reduceIte, go_sem, Nat.reduceLT, Nat.reduceEqDiff, reduceCtorEq, eq_self, h]
    refine AEnd.ret0 ?_
    simp (implicitDefEqProofs := false) only [↓reduceIte, go_sem, Nat.reduceLT, eq_self, kindsP, h]
def plainP (l : List Val) (k : Int) : Int := if !kindsP k then 1 else if 4096 < l.length then 2 else if l.any (fun v => !decide (v.kind = k)) then 7 else if l.any (fun v => !mayV v) then 1 else 0
set_option maxRecDepth 10000 in
theorem plain1_does (v : Val) (k : Int) (id : Nat) (H : AHeap) (hb : H[id]? = some (.box 3 1 0 1 [iA k])) : Does Tryz.prog 47 [v.av, .ptr id 0 0 0] H (.ok (bA (!decide (v.kind = k)))) H := by
  have hlt : id < H.length := (List.getElem?_eq_some_iff.1 hb).1
  refine Does.of_awp (hint := (fun _ => false)) Tryz.func47 (by kernel_rfl) rfl [3] (by kernel_rfl) (by decide) (by simp [Tryz.ntmps47]) ?_
  rw [Tryz.ntmps47]
  simp (implicitDefEqProofs := false) only [↓reduceIte, go_sem, oread, Nat.reduceAdd, Nat.reduceLT, Nat.reduceLeDiff, Nat.reduceEqDiff, eq_self, hb, List.getElem?_append_left hlt]
  refine AEnd.ret ?_
  simp (implicitDefEqProofs := false) only [↓reduceIte, go_sem, Nat.reduceLT, eq_self]
set_option maxRecDepth 10000 in
theorem plain2_does (v : Val) (H : AHeap) : Does Tryz.prog 48 [v.av] H (.ok (bA (!mayV v))) H := by
  refine Does.of_awp (hint := (fun _ => false)) Tryz.func48 (by kernel_rfl) rfl [2] (by kernel_rfl) (by decide) (by simp [Tryz.ntmps48]) ?_
  rw [Tryz.ntmps48]
  simp (implicitDefEqProofs := false) only [↓reduceIte, go_sem, oread, Nat.reduceAdd, Nat.reduceLT, Nat.reduceEqDiff, eq_self]
  refine KCall.ok (mayV_does v _) ?_
  simp (implicitDefEqProofs := false) only [↓reduceIte, go_sem, Nat.reduceLT, eq_self]
  refine AEnd.ret ?_
  simp (implicitDefEqProofs := false) only [↓reduceIte, go_sem, Nat.reduceLT, eq_self]
set_option maxRecDepth 10000 in
set_option maxHeartbeats 1000000 in
theorem plain_does (l : List Val) (k : Int) (nn : Bool) (H : AHeap) (hl : l.length ≤ 9223372036854775807) : Does Tryz.prog 18 [.d (.list nn (l.map Val.enc)), iA k] H (.ok (iA (plainP l k))) H := by
  refine Does.of_awp (hint := (fun _ => false)) Tryz.func18 (by kernel_rfl) rfl [4] (by kernel_rfl) (by decide) (by simp [Tryz.ntmps18]) ?_
  rw [Tryz.ntmps18]
  simp (implicitDefEqProofs := false) only [↓reduceIte, go_sem, oread, Nat.reduceLT, Nat.reduceEqDiff, eq_self]
  refine KCall.ok (kinds_does k _) ?_
  cases h1 : kindsP k with
  | false =>
    simp (implicitDefEqProofs := false) only [↓reduceIte, go_sem, Nat.reduceLT, eq_self]
    refine AEnd.ret ?_
    simp (implicitDefEqProofs := false) only [↓reduceIte, go_sem, Nat.reduceLT, eq_self, plainP, h1]
  | true =>
    by_cases h2 : 4096 < l.length
    · simp (implicitDefEqProofs := false) only [↓reduceIte, go_sem, Nat.reduceLT, reduceCtorEq, eq_self, show ((4096 : Int) < (l.length : Int)) = True from eq_true (by omega)]
      refine AEnd.ret ?_
      simp (implicitDefEqProofs := false) only [↓reduceIte, go_sem, Nat.reduceLT, eq_self, plainP, h1, h2, Bool.false_eq_true]
    · simp (implicitDefEqProofs := false) only [↓reduceIte, go_sem, Nat.reduceLT, Nat.reduceEqDiff, reduceCtorEq, eq_self, show ((4096 : Int) < (l.length : Int)) = False from eq_false (by omega)]
      refine KCall.ok (containsV_does l (fun v => !decide (v.kind = k)) _ _ nn _ hl fun v _ => plain1_does v k _ _ (by simp)) ?_
      cases h3 : l.any (fun v => !decide (v.kind = k)) with
      | true =>
        simp (implicitDefEqProofs := false) only [↓reduceIte, go_sem, Nat.reduceLT, eq_self]
        refine AEnd.ret ?_
        simp (implicitDefEqProofs := false) only [↓reduceIte, go_sem, Nat.reduceLT, eq_self, plainP, h1, h2, h3, Bool.false_eq_true]
      | false =>
        simp (implicitDefEqProofs := false) only [↓reduceIte, go_sem, Nat.reduceLT, Nat.reduceEqDiff, reduceCtorEq, eq_self]
        refine KCall.ok (containsV_does l (fun v => !mayV v) _ _ nn _ hl fun v _ => plain2_does v _) ?_
        cases h4 : l.any (fun v => !mayV v) with
        | true =>
          simp (implicitDefEqProofs := false) only [↓reduceIte, go_sem, Nat.reduceLT, eq_self]
          refine AEnd.ret ?_
          simp (implicitDefEqProofs := false) only [↓reduceIte, go_sem, Nat.reduceLT, eq_self, plainP, h1, h2, h3, h4, Bool.false_eq_true]
        | false =>
          simp (implicitDefEqProofs := false) only [↓reduceIte, go_sem, Nat.reduceLT, eq_self]
          refine AEnd.ret ?_
          simp (implicitDefEqProofs := false) only [↓reduceIte, go_sem, Nat.reduceLT, eq_self, plainP, h1, h2, h3, h4, Bool.false_eq_true]
end Go.Proofs.YtkapgooedfompaaGreat
namespace Go.Proofs.YtkapgooedfompaaGreat
open Go.Proofs.YtkapgooedfompaaGreatAw Go.RowKit
set_option linter.unusedVariables false
set_option linter.unusedSimpArgs false
def zigP (n : Int) : Nat := if 0 ≤ n then (2 * n).toNat else (-2 * n - 1).toNat
theorem wrapU (n : Int) : IntKind.u64.wrap n = n % 18446744073709551616 := by simp [IntKind.wrap, IntKind.signed, IntKind.bits]
theorem xorAll (c : Nat) (h : c < 18446744073709551616) : c ^^^ 18446744073709551615 = 18446744073709551615 - c := by
  have := Nat.testBit_two_pow_sub_succ (x := c) (n := 64) h
  apply Nat.eq_of_testBit_eq
  intro i
  rw [Nat.testBit_xor]
  have h2 := this i
  rw [show 2 ^ 64 - (c + 1) = 18446744073709551615 - c from by omega] at h2
  rw [h2]
  have h3 : (18446744073709551615 : Nat).testBit i = decide (i < 64) := by
    have := Nat.testBit_two_pow_sub_one 64 i
    simpa using this
  rw [h3]
  by_cases hi : i < 64
  · simp [hi]
  · have h5 : 2 ^ 64 ≤ 2 ^ i := Nat.pow_le_pow_right (by omega) (by omega)
    have : c.testBit i = false := Nat.testBit_lt_two_pow (by omega)
    simp [hi, this]
theorem zig_eq (n : Int) (h1 : -9223372036854775808 ≤ n) (h2 : n ≤ 9223372036854775807) :
    IntKind.u64.wrap (xorI .u64 (IntKind.u64.wrap (shlI .u64 (IntKind.u64.wrap n) 1)) (IntKind.u64.wrap (shrI .i64 n 63))) = ((zigP n : Nat) : Int) := by
  have s1 : shlI .u64 (IntKind.u64.wrap n) 1 = IntKind.u64.wrap n * 2 := by simp [shlI, IntKind.bits]
  have s2 : shrI .i64 n 63 = n.fdiv 9223372036854775808 := by simp [shrI, IntKind.bits]
  rw [s1, s2]
  by_cases h : 0 ≤ n
  · have e1 : IntKind.u64.wrap (IntKind.u64.wrap n * 2) = (((2 * n).toNat : Nat) : Int) := by rw [wrapU, wrapU]; omega
    have e2 : IntKind.u64.wrap (n.fdiv 9223372036854775808) = ((0 : Nat) : Int) := by
      rw [show n.fdiv 9223372036854775808 = 0 from by rw [Int.fdiv_eq_ediv_of_nonneg _ (by decide)]; omega]; rfl
    rw [e1, e2]
    have e := bits_xor_u64_nat (2 * n).toNat 0 (by omega) (by omega)
    rw [Nat.xor_zero] at e
    unfold zigP
    rw [if_pos h]
    exact e
  · have e1 : IntKind.u64.wrap (IntKind.u64.wrap n * 2) = (((2 * n + 18446744073709551616).toNat : Nat) : Int) := by rw [wrapU, wrapU]; omega
    have e2 : IntKind.u64.wrap (n.fdiv 9223372036854775808) = ((18446744073709551615 : Nat) : Int) := by
      rw [show n.fdiv 9223372036854775808 = -1 from by rw [Int.fdiv_eq_ediv_of_nonneg _ (by decide)]; omega]; rfl
    rw [e1, e2]
    have e := bits_xor_u64_nat (2 * n + 18446744073709551616).toNat 18446744073709551615 (by omega) (by omega)
    rw [xorAll _ (by omega)] at e
    unfold zigP
    rw [if_neg h, show (-2 * n - 1).toNat = 18446744073709551615 - (2 * n + 18446744073709551616).toNat from by omega]
    exact e
set_option maxRecDepth 10000 in
theorem zig_does (n : Int) (h1 : -9223372036854775808 ≤ n) (h2 : n ≤ 9223372036854775807) (H : AHeap) : Does Tryz.prog 52 [iA n] H (.ok (du (zigP n))) H := by
  refine Does.of_awp (hint := (fun _ => false)) Tryz.func52 (by kernel_rfl) rfl [2] (by kernel_rfl) (by decide) (by simp [Tryz.ntmps52]) ?_
  rw [Tryz.ntmps52]
  simp (implicitDefEqProofs := false) only [↓reduceIte, go_sem, Nat.reduceLT, Nat.reduceEqDiff, Int.reduceLE, reduceCtorEq, eq_self, zig_eq n h1 h2]
  refine AEnd.ret0 ?_
  simp (implicitDefEqProofs := false) only [↓reduceIte, go_sem, Nat.reduceLT, eq_self]
end Go.Proofs.YtkapgooedfompaaGreat
namespace Go.Proofs.YtkapgooedfompaaGreat
open Go.Proofs.YtkapgooedfompaaGreatAw Go.RowKit
set_option linter.unusedVariables false
set_option linter.unusedSimpArgs false
abbrev eV (e : Int) : Value := .iface 26 (.int .i64 e)
/-- The box of a row of bytes. -/
def rowB (b : List Nat) : AObj := .box 98 1 0 1 [.d (.list false (bys b))]
theorem next_short (H : AHeap) (id : Nat) (ho : H[id]? = some (rowB [])) : Does Tryz.prog 90 [.ptr id 0 0 0] H (.panic (eV 3)) H := by
  refine Does.of_awp (hint := (fun _ => false)) Tryz.func90 (by kernel_rfl) rfl [2] (by kernel_rfl) (by decide) (by simp [Tryz.ntmps90]) ?_
  rw [Tryz.ntmps90]
  simp (implicitDefEqProofs := false) only [↓reduceIte, go_sem, oread, Nat.reduceLT, reduceCtorEq, eq_self, ho, rowB, bys_nil]
  exact ⟨_, .refl _ _, rfl⟩
set_option maxRecDepth 10000 in
theorem next_does (H : AHeap) (id : Nat) (c : Nat) (b : List Nat) (hl : b.length < 1000000000000000) (ho : H[id]? = some (rowB (c :: b))) : Does Tryz.prog 90 [.ptr id 0 0 0] H (.ok (.d (.v (.int .u8 c)))) (H.set id (rowB b)) := by
  refine Does.of_awp (hint := (fun _ => false)) Tryz.func90 (by kernel_rfl) rfl [2] (by kernel_rfl) (by decide) (by simp [Tryz.ntmps90]) ?_
  rw [Tryz.ntmps90]
  have hne : ((b.length : Int) + 1 = 0) = False := eq_false (by omega)
  have hid : id < H.length := (List.getElem?_eq_some_iff.1 ho).1
  have hget : (bys (c :: b))[0]? = some [.v (.int .u8 c)] := rfl
  simp (implicitDefEqProofs := false) only [↓reduceIte, go_sem, oread, Nat.reduceLT, Int.reduceLE, reduceCtorEq, eq_self, ho, rowB, bys_len, hne, hget, Int.toNat_zero, Nat.zero_mul]
  refine awp_drawK 14 K.mixed (by kernel_rfl) (by kernel_rfl) ?_
  simp (implicitDefEqProofs := false) only [↓reduceIte, go_sem, oread, owrite, Nat.reduceLT, Nat.reduceEqDiff, Int.reduceLE, Int.reduceToNat, reduceCtorEq, eq_self, ho, rowB, bys_len, bys_one]
  have hd : List.drop 1 (List.take (b.length + 1 : Int).toNat (bys (c :: b))) = bys b := by
    rw [List.take_of_length_le (by rw [bys_len, List.length_cons]; omega)]; rfl
  rw [hd]
  refine ⟨by omega, by omega, by omega, _, Weak.refl _ _, ?_⟩
  simp (implicitDefEqProofs := false) only [↓reduceIte, go_sem, Nat.reduceLT, eq_self]
/-- What number reads, from place 10 - k on. -/
def numP : Nat → Nat → List Nat → Except Int Nat × List Nat
  | 0, _, b => (.error 4, b)
  | _ + 1, _, [] => (.error 3, [])
  | k + 1, acc, c :: b =>
    if (k = 0 ∧ 1 < c) ∨ (k < 9 ∧ c = 0) then (.error 4, b)
    else if c < 128 then (.ok (acc + c % 128 * 128 ^ (9 - k)), b)
    else numP k (acc + c % 128 * 128 ^ (9 - k)) b
theorem andNot128 : ∀ m : Nat, m < 256 → IntKind.u64.wrap (IntKind.u8.wrap (andNotI .u8 (m : Int) 128)) = ((m % 128 : Nat) : Int) := by decide +kernel
theorem shlN (m j : Nat) (hj : j ≤ 63) (hm : m * 2 ^ j < 18446744073709551616) : IntKind.u64.wrap (shlI .u64 (m : Int) (j : Int)) = ((m * 2 ^ j : Nat) : Int) := by
  have h1 : min j 64 = j := by omega
  have h3 : shlI .u64 (m : Int) (j : Int) = ((m * 2 ^ j : Nat) : Int) := by
    simp only [shlI, IntKind.bits, Int.toNat_natCast, h1]
    push_cast
    rfl
  rw [h3]
  exact wrapU64N _ hm
theorem orN (a m j : Nat) (ha : a < 2 ^ j) (hm : a + m * 2 ^ j < 18446744073709551616) : IntKind.u64.wrap (orI .u64 (a : Int) ((m * 2 ^ j : Nat) : Int)) = ((a + m * 2 ^ j : Nat) : Int) := by
  rw [orI_nat .u64 a (m * 2 ^ j) (by simp only [IntKind.bits]; omega) (by simp only [IntKind.bits]; omega)]
  have h4 : a ||| m * 2 ^ j = a + m * 2 ^ j := by
    rw [Nat.or_comm, Nat.mul_comm, ← Nat.two_pow_add_eq_or_of_lt ha]
    omega
  rw [h4]
  exact wrapU64N _ hm
theorem pow128 (i : Nat) : 128 ^ i = 2 ^ (7 * i) := by rw [Nat.pow_mul]
set_option maxRecDepth 10000 in
set_option maxHeartbeats 1000000 in
theorem number_does (H : AHeap) (id : Nat) (b : List Nat) (hl : b.length < 1000000000000000) (hb : ∀ c ∈ b, c < 256) (ho : H[id]? = some (rowB b)) :
    Does Tryz.prog 68 [.ptr id 0 0 0] H (match (numP 10 0 b).1 with | .ok n => .ok (uA n) | .error e => .panic (eV e)) (H.set id (rowB (numP 10 0 b).2)) := by
  have hid : id < H.length := (List.getElem?_eq_some_iff.1 ho).1
  have hself : H = H.set id (rowB b) := by
    apply List.ext_getElem?
    intro j
    by_cases hj : j = id
    · subst hj; rw [ho, List.getElem?_set_self hid]
    · rw [List.getElem?_set_ne (Ne.symm hj)]
  refine Does.of_awp (hint := (fun _ => false)) Tryz.func68 (by kernel_rfl) rfl [2] (by kernel_rfl) (by decide) (by simp [Tryz.ntmps68]) ?_
  rw [Tryz.ntmps68]
  simp (implicitDefEqProofs := false) only [go_sem]
  refine awp_loop _ _ _ _ (fun (x : Nat × Nat × List Nat) s H' => x.1 ≤ 10 ∧ x.2.1 < 128 ^ (10 - x.1) ∧ x.2.2.length < 1000000000000000 ∧ (∀ c ∈ x.2.2, c < 256) ∧ H' = H.set id (rowB x.2.2) ∧ numP 10 0 b = numP x.1 x.2.1 x.2.2 ∧ s 0 = .ptr id 0 0 0 ∧ s 3 = uA x.2.1 ∧ s 4 = iA ((10 - x.1 : Nat) : Int)) (fun x => x.1) (10, 0, b) (Weak.refl _ _) ?_ ?_
  · refine ⟨Nat.le_refl _, Nat.zero_lt_one, hl, hb, hself, rfl, ?_⟩
    simp (implicitDefEqProofs := false) only [↓reduceIte, go_sem, Nat.reduceSub, Nat.reduceLT, Nat.reduceEqDiff, reduceCtorEq, eq_self]
  · rintro ⟨k, acc, r⟩ s H' ⟨h1, h2, h3, h4, rfl, h5, t0, t3, t4⟩
    simp only at h1 h2 h3 h4 h5 t0 t3 t4
    rw [h5]
    have hget : (H.set id (rowB r))[id]? = some (rowB r) := List.getElem?_set_self hid
    cases k with
    | zero =>
      simp (implicitDefEqProofs := false) only [↓reduceIte, go_sem, Nat.reduceSub, Nat.reduceLT, eq_self, t4]
      exact ⟨_, .refl _ _, rfl⟩
    | succ k =>
      obtain ⟨i, hi⟩ : ∃ i, i = 9 - k := ⟨_, rfl⟩
      have hi2 : 10 - (k + 1) = i := by omega
      rw [hi2] at t4 h2
      have hne : ((i : Int) = 10) = False := eq_false (by omega)
      simp (implicitDefEqProofs := false) only [↓reduceIte, go_sem, Nat.reduceLT, reduceCtorEq, eq_self, t0, t4, hne]
      cases r with
      | nil =>
        refine KCall.panic (next_short _ id hget) ?_
        simp (implicitDefEqProofs := false) only [go_sem]
        exact ⟨_, .refl _ _, rfl⟩
      | cons c r =>
        refine KCall.ok (next_does _ id c r (by simp at h3; omega) hget) ?_
        have hc : c < 256 := h4 c (by simp)
        by_cases hbad : (k = 0 ∧ 1 < c) ∨ (k < 9 ∧ c = 0)
        · rw [show numP (k + 1) acc (c :: r) = (.error 4, r) by simp [numP, hbad]]
          have fin : ∀ s, AEnd [2] H (ARes.panic (eV 4)) (List.set H id (rowB r)) (AX.panic (Value.iface 26 (Value.int IntKind.i64 4))) s (List.set H id (rowB r)) := fun s => ⟨_, .refl _ _, rfl⟩
          by_cases h9 : k = 0
          · have e1 : ((i : Int) = 9) = True := eq_true (by omega)
            by_cases hc1 : 1 < c
            · have e2 : (1 < (c : Int)) = True := eq_true (by omega)
              simp (implicitDefEqProofs := false) only [↓reduceIte, go_sem, Nat.reduceLT, Nat.reduceEqDiff, eq_self, List.set_set, t4, e1, e2]
              exact fin _
            · have e2 : (1 < (c : Int)) = False := eq_false (by omega)
              have e3 : (0 < (i : Int)) = True := eq_true (by omega)
              have e4 : ((c : Int) = 0) = True := eq_true (by omega)
              simp (implicitDefEqProofs := false) only [↓reduceIte, go_sem, Nat.reduceLT, Nat.reduceEqDiff, reduceCtorEq, eq_self, List.set_set, t4, e1, e2, e3, e4]
              exact fin _
          · have e1 : ((i : Int) = 9) = False := eq_false (by omega)
            have e3 : (0 < (i : Int)) = True := eq_true (by omega)
            have e4 : ((c : Int) = 0) = True := eq_true (by omega)
            simp (implicitDefEqProofs := false) only [↓reduceIte, go_sem, Nat.reduceLT, Nat.reduceEqDiff, reduceCtorEq, eq_self, List.set_set, t4, e1, e3, e4]
            exact fin _
        · have hstep : numP (k + 1) acc (c :: r) = if c < 128 then (.ok (acc + c % 128 * 128 ^ i), r) else numP k (acc + c % 128 * 128 ^ i) r := by
            rw [hi]; simp only [numP, if_neg hbad]
          rw [hstep]
          have hpart := andNot128 c hc
          obtain ⟨j, hj⟩ : ∃ j, j = 7 * i := ⟨_, rfl⟩
          have hp2 := pow128 i
          rw [← hj] at hp2
          have hm : c % 128 * 2 ^ j + 2 ^ j ≤ 18446744073709551616 := by
            by_cases h9 : k = 0
            · have : j = 63 := by omega
              subst this
              have : c ≤ 1 := by omega
              have : c % 128 ≤ 1 := by omega
              omega
            · have h56 : 2 ^ j ≤ 2 ^ 56 := Nat.pow_le_pow_right (by decide) (by omega)
              have : c % 128 < 128 := Nat.mod_lt _ (by decide)
              have : c % 128 * 2 ^ j ≤ 127 * 2 ^ j := Nat.mul_le_mul_right _ (by omega)
              omega
          rw [hp2] at h2
          rw [hp2]
          have e5 : IntKind.i64.wrap (7 * (i : Int)) = (j : Int) := by rw [wrap64_in _ (by omega) (by omega)]; omega
          have e6 : IntKind.u64.wrap (j : Int) = (j : Int) := wrapU64N _ (by omega)
          have e7 := shlN (c % 128) j (by omega) (by omega)
          have e8 := orN acc (c % 128) j h2 (by omega)
          have hA : acc + c % 128 * 2 ^ j < 2 ^ j * 128 := by
            have : c % 128 < 128 := Nat.mod_lt _ (by decide)
            have : c % 128 * 2 ^ j ≤ 127 * 2 ^ j := Nat.mul_le_mul_right _ (by omega)
            omega
          generalize c % 128 = m at *
          generalize m * 2 ^ j = P at *
          generalize acc + P = A at *
          have hw2 : IntKind.i64.wrap ((i : Int) + 1) = ((10 - k : Nat) : Int) := by rw [wrap64_in _ (by omega) (by omega)]; omega
          have fin : ∀ s, s 2 = uA A → AEnd [2] H (ARes.ok (uA A)) (List.set H id (rowB r)) AX.ret s (List.set H id (rowB r)) := fun s hs => ⟨_, .refl _ _, by simp only [ares, hs]⟩
          have nxt : ∀ s, s 0 = .ptr id 0 0 0 → s 3 = uA A → s 4 = iA ((10 - k : Nat) : Int) → ∃ s'' H'' , ∃ y : Nat × Nat × List Nat, Weak H s (List.set H id (rowB r)) s'' H'' ∧ (y.1 ≤ 10 ∧ y.2.1 < 128 ^ (10 - y.1) ∧ y.2.2.length < 1000000000000000 ∧ (∀ c ∈ y.2.2, c < 256) ∧ H'' = H.set id (rowB y.2.2) ∧ numP k A r = numP y.1 y.2.1 y.2.2 ∧ s'' 0 = .ptr id 0 0 0 ∧ s'' 3 = uA y.2.1 ∧ s'' 4 = iA ((10 - y.1 : Nat) : Int)) ∧ y.1 < k + 1 := by
            intro s g0 g3 g4
            refine ⟨s, _, (k, A, r), .refl _ _, ⟨by simp only; omega, ?_, by simp at h3; simp only; omega, fun c hc => h4 c (by simp [hc]), rfl, rfl, g0, g3, g4⟩, Nat.lt_succ_self _⟩
            show A < 128 ^ (10 - k)
            rw [show 10 - k = i + 1 by omega, Nat.pow_succ, pow128, ← hj]
            exact hA
          by_cases hlt : c < 128
          · rw [if_pos hlt]
            have hlt' : ((c : Int) < 128) = True := eq_true (by omega)
            by_cases h9 : k = 0
            · have e1 : ((i : Int) = 9) = True := eq_true (by omega)
              have e2 : (1 < (c : Int)) = False := eq_false (by omega)
              have e3 : (0 < (i : Int)) = True := eq_true (by omega)
              have e4 : ((c : Int) = 0) = False := eq_false (by omega)
              simp (implicitDefEqProofs := false) only [↓reduceIte, go_sem, Nat.reduceLT, Nat.reduceEqDiff, reduceCtorEq, eq_self, List.set_set, t3, t4, e1, e2, e3, e4, hpart, e5, e6, e7, e8, hlt']
              exact fin _ (by simp (implicitDefEqProofs := false) only [↓reduceIte, go_sem, Nat.reduceLT, eq_self])
            · have e1 : ((i : Int) = 9) = False := eq_false (by omega)
              by_cases h0 : i = 0
              · have e3 : (0 < (i : Int)) = False := eq_false (by omega)
                simp (implicitDefEqProofs := false) only [↓reduceIte, go_sem, Nat.reduceLT, Nat.reduceEqDiff, reduceCtorEq, eq_self, List.set_set, t3, t4, e1, e3, hpart, e5, e6, e7, e8, hlt']
                exact fin _ (by simp (implicitDefEqProofs := false) only [↓reduceIte, go_sem, Nat.reduceLT, eq_self])
              · have e3 : (0 < (i : Int)) = True := eq_true (by omega)
                have e4 : ((c : Int) = 0) = False := eq_false (by omega)
                simp (implicitDefEqProofs := false) only [↓reduceIte, go_sem, Nat.reduceLT, Nat.reduceEqDiff, reduceCtorEq, eq_self, List.set_set, t3, t4, e1, e3, e4, hpart, e5, e6, e7, e8, hlt']
                exact fin _ (by simp (implicitDefEqProofs := false) only [↓reduceIte, go_sem, Nat.reduceLT, eq_self])
          · rw [if_neg hlt]
            have hlt' : ((c : Int) < 128) = False := eq_false (by omega)
            by_cases h9 : k = 0
            · have e1 : ((i : Int) = 9) = True := eq_true (by omega)
              have e2 : (1 < (c : Int)) = False := eq_false (by omega)
              have e3 : (0 < (i : Int)) = True := eq_true (by omega)
              have e4 : ((c : Int) = 0) = False := eq_false (by omega)
              simp (implicitDefEqProofs := false) only [↓reduceIte, go_sem, Nat.reduceLT, Nat.reduceEqDiff, reduceCtorEq, eq_self, List.set_set, t3, t4, e1, e2, e3, e4, hpart, e5, e6, e7, e8, hlt', hw2]
              exact nxt _ (by simp (implicitDefEqProofs := false) only [↓reduceIte, go_sem, reduceCtorEq, eq_self, t0]) (by simp (implicitDefEqProofs := false) only [↓reduceIte, go_sem, Nat.reduceLT, Nat.reduceEqDiff, eq_self]) (by simp (implicitDefEqProofs := false) only [↓reduceIte, go_sem, Nat.reduceLT, eq_self])
            · have e1 : ((i : Int) = 9) = False := eq_false (by omega)
              by_cases h0 : i = 0
              · have e3 : (0 < (i : Int)) = False := eq_false (by omega)
                simp (implicitDefEqProofs := false) only [↓reduceIte, go_sem, Nat.reduceLT, Nat.reduceEqDiff, reduceCtorEq, eq_self, List.set_set, t3, t4, e1, e3, hpart, e5, e6, e7, e8, hlt', hw2]
                exact nxt _ (by simp (implicitDefEqProofs := false) only [↓reduceIte, go_sem, reduceCtorEq, eq_self, t0]) (by simp (implicitDefEqProofs := false) only [↓reduceIte, go_sem, Nat.reduceLT, Nat.reduceEqDiff, eq_self]) (by simp (implicitDefEqProofs := false) only [↓reduceIte, go_sem, Nat.reduceLT, eq_self])
              · have e3 : (0 < (i : Int)) = True := eq_true (by omega)
                have e4 : ((c : Int) = 0) = False := eq_false (by omega)
                simp (implicitDefEqProofs := false) only [↓reduceIte, go_sem, Nat.reduceLT, Nat.reduceEqDiff, reduceCtorEq, eq_self, List.set_set, t3, t4, e1, e3, e4, hpart, e5, e6, e7, e8, hlt', hw2]
                exact nxt _ (by simp (implicitDefEqProofs := false) only [↓reduceIte, go_sem, reduceCtorEq, eq_self, t0]) (by simp (implicitDefEqProofs := false) only [↓reduceIte, go_sem, Nat.reduceLT, Nat.reduceEqDiff, eq_self]) (by simp (implicitDefEqProofs := false) only [↓reduceIte, go_sem, Nat.reduceLT, eq_self])
theorem saved_ret (H : AHeap) (a : AV) : DoesD Tryz.prog 67 [a] H .returning H .returning := by
  refine DoesD.of_awp (hint := fun _ => false) Tryz.func67 (by kernel_rfl) rfl ⟨_, rfl⟩ rfl rfl rfl rfl rfl (by rw [Tryz.ntmps67]; decide) rfl (by simp [Tryz.ntmps67]) .ret ?_
  rw [Tryz.ntmps67]
  simp (implicitDefEqProofs := false) only [↓reduceIte, go_sem, Nat.reduceLT, eq_self]
  exact ⟨_, .refl _ _⟩
theorem saved_pan (H : AHeap) (id : Nat) (x : AV) (e : Int) (ho : H[id]? = some (.box 26 1 0 1 [x])) : DoesD Tryz.prog 67 [.ptr id 0 0 0] H (mPan (eV e)) (H.set id (.box 26 1 0 1 [iA e])) (mRec (eV e)) := by
  refine DoesD.of_awp (hint := fun _ => false) Tryz.func67 (by kernel_rfl) rfl ⟨_, rfl⟩ rfl rfl rfl rfl rfl (by rw [Tryz.ntmps67]; decide) rfl (by simp [Tryz.ntmps67]) (.pan _) ?_
  rw [Tryz.ntmps67]
  simp (implicitDefEqProofs := false) only [↓reduceIte, go_sem, owrite, Nat.reduceLT, Nat.reduceEqDiff, reduceCtorEq, eq_self, ho]
  exact ⟨_, .refl _ _⟩
theorem numP_len : ∀ (k acc : Nat) (b : List Nat), (numP k acc b).2.length ≤ b.length
  | 0, _, b => Nat.le_refl _
  | _ + 1, _, [] => Nat.le_refl _
  | k + 1, acc, c :: b => by
    simp only [numP]
    split
    · simp
    · split
      · simp
      · exact Nat.le_trans (numP_len k _ b) (by simp)
def getP (b : List Nat) : Nat × Nat × Int := match numP 10 0 b with
  | (.ok n, r) => (n, b.length - r.length, 0)
  | (.error e, _) => (0, 0, e)
set_option maxRecDepth 10000 in
theorem get_does (b : List Nat) (hl : b.length < 1000000000000000) (hb : ∀ c ∈ b, c < 256) (H : AHeap) : Does Tryz.prog 30 [.d (.list false (bys b))] H (.ok (.tup [uA (getP b).1, iA (getP b).2.1, iA (getP b).2.2])) H := by
  refine Does.of_awpD (hint := fun _ => false) Tryz.func30 (by kernel_rfl) rfl [.tmp 2, .tmp 3, .cell 4 26] (by kernel_rfl) rfl rfl rfl rfl (by simp [Tryz.ntmps30]) ?_
  rw [Tryz.ntmps30]
  simp (implicitDefEqProofs := false) only [↓reduceIte, go_sem, owrite, Nat.reduceLT, Nat.reduceEqDiff, reduceCtorEq, eq_self]
  have hd := number_does (H ++ [.box 26 1 0 1 [iA 0], rowB b]) (H.length + 1) b hl hb (by simp)
  have hset : ∀ x y z : AObj, (H ++ [x, y]).set (H.length + 1) z = H ++ [x, z] := fun x y z => by simp []
  have hset0 : ∀ x y z : AObj, (H ++ [x, y]).set H.length z = H ++ [z, y] := fun x y z => by simp []
  rw [hset] at hd
  have hg : getP b = match numP 10 0 b with
    | (.ok n, r) => (n, b.length - r.length, 0)
    | (.error e, _) => (0, 0, e) := rfl
  rcases hn : numP 10 0 b with ⟨_ | n, r⟩
  · rename_i e
    rw [hn] at hd hg
    rw [hg]
    refine KCall.panic hd ?_
    simp (implicitDefEqProofs := false) only [↓reduceIte, go_sem, Nat.reduceLT, eq_self]
    refine ⟨_, saved_pan _ _ (iA 0) e (by simp), ?_⟩
    rw [hset0]
    refine AEndC.ret ?_
    simp (implicitDefEqProofs := false) only [↓reduceIte, go_sem, oread, Nat.reduceAdd, Nat.reduceLT, Nat.reduceEqDiff, reduceCtorEq, eq_self, resAll, resAV]
  · rw [hn] at hd hg
    rw [hg]
    refine KCall.ok hd ?_
    simp (implicitDefEqProofs := false) only [↓reduceIte, go_sem, Nat.reduceLT, eq_self, rowB]
    refine awp_drawK 7 K.mixed (by kernel_rfl) (by kernel_rfl) ?_
    have hw : IntKind.i64.wrap ((b.length : Int) - (r.length : Int)) = ((b.length - r.length : Nat) : Int) := by
      have := numP_len 10 0 b
      rw [hn] at this
      simp only at this
      rw [wrap64_in _ (by omega) (by omega)]; omega
    simp (implicitDefEqProofs := false) only [↓reduceIte, go_sem, oread, owrite, Nat.reduceLT, Nat.reduceEqDiff, reduceCtorEq, eq_self, bys_len, hw]
    refine ⟨_, saved_ret _ _, ?_⟩
    refine AEndC.ret ?_
    simp (implicitDefEqProofs := false) only [↓reduceIte, go_sem, oread, Nat.reduceAdd, Nat.reduceLT, Nat.reduceEqDiff, reduceCtorEq, eq_self, resAll, resAV]
theorem getN_does (b : List Nat) (nn : Bool) (hl : b.length < 1000000000000000) (hb : ∀ c ∈ b, c < 256) (H : AHeap) : Does Tryz.prog 30 [.d (.list nn (bys b))] H (.ok (.tup [uA (getP b).1, iA (getP b).2.1, iA (getP b).2.2])) H := by
  cases nn
  · exact get_does b hl hb H
  · exact (get_does b hl hb H).sub (.cons (.nn _) .nil)
def zagP (n : Nat) : Int := if n % 2 = 1 then -((n / 2 : Nat) : Int) - 1 else ((n / 2 : Nat) : Int)
theorem xorI_nat (k : IntKind) (a b : Nat) (ha : a < 2 ^ k.bits) (hb : b < 2 ^ k.bits) : xorI k (a : Int) (b : Int) = ((a ^^^ b : Nat) : Int) := by
  simp [xorI, BitVec.toNat_xor, BitVec.ofInt_natCast, Nat.mod_eq_of_lt ha, Nat.mod_eq_of_lt hb]
theorem xor_nat (a b : Nat) (ha : a < 18446744073709551616) (hb : b < 18446744073709551616) : xorI .i64 (a : Int) (b : Int) = ((a ^^^ b : Nat) : Int) := xorI_nat .i64 a b ha hb
theorem zag_eq (n : Nat) (h : n < 18446744073709551616) : IntKind.i64.wrap (xorI .i64 (IntKind.i64.wrap (shrI .u64 (n : Int) 1)) (IntKind.i64.wrap (0 - IntKind.i64.wrap (IntKind.u64.wrap (andI .u64 (n : Int) 1))))) = zagP n := by
  have s1 : shrI .u64 (n : Int) 1 = ((n / 2 : Nat) : Int) := shrU n 1 (by decide)
  have s2 : andI .u64 (n : Int) 1 = ((n % 2 : Nat) : Int) := by
    have := andI_nat .u64 n 1 (by simp only [IntKind.bits]; omega) (by decide)
    rw [Nat.and_one_is_mod] at this
    exact this
  rw [s1, s2, wrapU64N _ (by omega), wrap64_in (n / 2 : Nat) (by omega) (by omega), wrap64_in (n % 2 : Nat) (by omega) (by omega)]
  unfold zagP
  by_cases h1 : n % 2 = 1
  · rw [if_pos h1, h1]
    have e : xorI .i64 ((n / 2 : Nat) : Int) (IntKind.i64.wrap (0 - ((1 : Nat) : Int))) = xorI .i64 ((n / 2 : Nat) : Int) ((18446744073709551615 : Nat) : Int) := by
      have : BitVec.ofInt 64 (IntKind.i64.wrap (0 - ((1 : Nat) : Int))) = BitVec.ofInt 64 ((18446744073709551615 : Nat) : Int) := by decide
      simp only [xorI, IntKind.bits, this]
    rw [e, xor_nat _ _ (by omega) (by omega), Nat.xor_comm, Nat.xor_comm, xorAll _ (by omega)]
    simp only [IntKind.wrap, IntKind.signed, IntKind.bits]
    simp only [show ((2 : Int) ^ 64) = 18446744073709551616 from rfl, show ((2 : Int) ^ (64 - 1)) = 9223372036854775808 from rfl]
    simp
    split <;> omega
  · rw [if_neg h1, show n % 2 = 0 by omega]
    have e : IntKind.i64.wrap (0 - ((0 : Nat) : Int)) = ((0 : Nat) : Int) := by decide
    rw [e, xor_nat _ _ (by omega) (by omega), Nat.xor_zero]
    exact wrap64_in _ (by omega) (by omega)
set_option maxRecDepth 10000 in
theorem zag_does (n : Nat) (h : n < 18446744073709551616) (H : AHeap) : Does Tryz.prog 87 [uA n] H (.ok (iA (zagP n))) H := by
  refine Does.of_awp (hint := (fun _ => false)) Tryz.func87 (by kernel_rfl) rfl [2] (by kernel_rfl) (by decide) (by simp [Tryz.ntmps87]) ?_
  rw [Tryz.ntmps87]
  simp (implicitDefEqProofs := false) only [↓reduceIte, go_sem, Nat.reduceLT, Nat.reduceEqDiff, Int.reduceLE, reduceCtorEq, eq_self]
  refine AEnd.ret0 ?_
  simp (implicitDefEqProofs := false) only [↓reduceIte, go_sem, Nat.reduceLT, eq_self, zag_eq n h]
end Go.Proofs.YtkapgooedfompaaGreat
namespace Go.Proofs.YtkapgooedfompaaGreat
open Go.Proofs.YtkapgooedfompaaGreatAw Go.RowKit
set_option linter.unusedVariables false
set_option linter.unusedSimpArgs false
def bitsB (b : List Nat) : List Bool := b.flatMap fun c => bitsN c 8
theorem bitsB_len : ∀ b : List Nat, (bitsB b).length = 8 * b.length
  | [] => rfl
  | c :: b => by
    have : bitsB (c :: b) = bitsN c 8 ++ bitsB b := rfl
    rw [this, List.length_append, bitsB_len b, bitsN_len, List.length_cons]; omega
theorem bitsB_get : ∀ (b : List Nat) (i : Nat) (c : Nat), b[i / 8]? = some c → (bitsB b)[i]? = some (c.testBit (i % 8))
  | [], i, c, h => by simp at h
  | x :: b, i, c, h => by
    have e : bitsB (x :: b) = bitsN x 8 ++ bitsB b := rfl
    rw [e]
    by_cases hi : i < 8
    · rw [show i / 8 = 0 by omega] at h
      cases h
      rw [List.getElem?_append_left (by rw [bitsN_len]; exact hi), show i % 8 = i by omega]
      simp [bitsN, hi]
    · rw [show i / 8 = (i - 8) / 8 + 1 by omega, List.getElem?_cons_succ] at h
      rw [List.getElem?_append_right (by rw [bitsN_len]; omega), bitsN_len, bitsB_get b (i - 8) c h]
      congr 2
      omega
theorem byteOf_take (L : List Bool) (k : Nat) (c : Bool) (h : L[k]? = some c) : byteOf (L.take (k + 1)) = byteOf (L.take k) + c.toNat * 2 ^ k := by
  have hk : k < L.length := (List.getElem?_eq_some_iff.1 h).1
  rw [List.take_add_one, h, Option.toList_some, byteOf_snoc, List.length_take, Nat.min_eq_left (Nat.le_of_lt hk)]
def rH (G : AHeap) (b : List Nat) (at_ : Nat) (T : AHeap) : AHeap := G ++ .arr 5 1 1 (bys b) :: .box 127 2 0 1 [.sl G.length 1 0 b.length, iA at_] :: T
theorem from_does (b : List Nat) (nn : Bool) (hl : b.length ≤ 140737488351232) (H : AHeap) : Does Tryz.prog 69 [.d (.list nn (bys b))] H (.ok (.ptr (H.length + 1) 0 0 0)) (rH H b 0 []) := by
  generalize hE : rH H b 0 [] = E
  refine Does.of_awp (hint := (fun _ => false)) Tryz.func69 (by kernel_rfl) rfl [2] (by kernel_rfl) (by decide) (by simp [Tryz.ntmps69]) ?_
  rw [Tryz.ntmps69]
  simp (implicitDefEqProofs := false) only [↓reduceIte, go_sem, Nat.reduceAdd, Nat.reduceLT, Nat.reduceLeDiff, Nat.reduceEqDiff, reduceCtorEq, eq_self, bys_one, bys_len]
  refine ⟨by omega, by omega, ?_⟩
  rw [← hE]
  refine ⟨_, Weak.refl _ _, ?_⟩
  simp (implicitDefEqProofs := false) only [↓reduceIte, go_sem, Nat.reduceLT, eq_self]
theorem left_does (b : List Nat) (at_ : Nat) (hl : b.length ≤ 140737488351232) (ha : at_ ≤ 8 * b.length) (G T : AHeap) : Does Tryz.prog 70 [.ptr (G.length + 1) 0 0 0] (rH G b at_ T) (.ok (iA ((8 * b.length - at_ : Nat) : Int))) (rH G b at_ T) := by
  refine Does.of_awp (hint := (fun _ => false)) Tryz.func70 (by kernel_rfl) rfl [2] (by kernel_rfl) (by decide) (by simp [Tryz.ntmps70]) ?_
  rw [Tryz.ntmps70]
  simp (implicitDefEqProofs := false) only [↓reduceIte, go_sem, Nat.reduceLT, reduceCtorEq, eq_self, rH]
  refine awp_draw K.mixed (by kernel_rfl) ?_
  have h1 : IntKind.i64.wrap (8 * (b.length : Int)) = 8 * (b.length : Int) := wrap64_in _ (by omega) (by omega)
  have h2 : IntKind.i64.wrap (8 * (b.length : Int) - (at_ : Int)) = ((8 * b.length - at_ : Nat) : Int) := by rw [wrap64_in _ (by omega) (by omega)]; omega
  generalize 8 * b.length - at_ = z at *
  simp (implicitDefEqProofs := false) only [↓reduceIte, go_sem, oread, Nat.reduceAdd, Nat.reduceLT, Nat.reduceLeDiff, Nat.reduceEqDiff, reduceCtorEq, eq_self]
  refine ⟨_, Weak.refl _ _, ?_⟩
  simp (implicitDefEqProofs := false) only [↓reduceIte, go_sem, Nat.reduceLT, eq_self, h1, h2]
theorem bitU (x : Nat) (j : Nat) (hx : x < 256) (hj : j < 8) : IntKind.u64.wrap (IntKind.u8.wrap (andI .u8 (shrI .u8 (x : Int) (j : Int)) 1)) = (((x.testBit j).toNat : Nat) : Int) := by
  have h1 : min j 8 = j := by omega
  have e : shrI .u8 (x : Int) (j : Int) = ((x / 2 ^ j : Nat) : Int) := by
    simp only [shrI, IntKind.bits, Int.toNat_natCast, h1]
    rw [Int.fdiv_eq_ediv_of_nonneg _ (by exact_mod_cast Nat.zero_le _)]
    norm_cast
  have h2 : x / 2 ^ j < 256 := Nat.lt_of_le_of_lt (Nat.div_le_self _ _) hx
  rw [e]
  have := andI_nat .u8 (x / 2 ^ j) 1 h2 (by decide)
  rw [show ((1 : Nat) : Int) = 1 from rfl] at this
  rw [this, Nat.and_one_is_mod, wrap8N _ (by omega), wrapU64N _ (by omega), Nat.testBit_eq_decide_div_mod_eq]
  rcases Nat.mod_two_eq_zero_or_one (x / 2 ^ j) with h | h <;> rw [h] <;> rfl
set_option maxRecDepth 10000 in
set_option maxHeartbeats 1000000 in
theorem rget_does (b : List Nat) (at_ w : Nat) (hl : b.length ≤ 140737488351232) (hb : ∀ c ∈ b, c < 256) (ha : at_ + w ≤ 8 * b.length) (hw : w ≤ 64) (G T : AHeap) :
    Does Tryz.prog 71 [.ptr (G.length + 1) 0 0 0, iA w] (rH G b at_ T) (.ok (.tup [du (byteOf (((bitsB b).drop at_).take w)), iA 0])) (rH G b (at_ + w) T) := by
  generalize hE : rH G b (at_ + w) T = E
  refine Does.of_awp (hint := (fun _ => false)) Tryz.func71 (by kernel_rfl) rfl [4, 5] (by kernel_rfl) (by decide) (by simp [Tryz.ntmps71]) ?_
  rw [Tryz.ntmps71]
  simp (implicitDefEqProofs := false) only [↓reduceIte, go_sem, Nat.reduceLT, Nat.reduceEqDiff, reduceCtorEq, eq_self, rH, show ((w : Int) < 0) = False from eq_false (by omega), show ((64 : Int) < (w : Int)) = False from eq_false (by omega)]
  refine KCall.ok (left_does b at_ hl (by omega) G T) ?_
  simp (implicitDefEqProofs := false) only [↓reduceIte, go_sem, Nat.reduceLT, Nat.reduceEqDiff, eq_self, show (((8 * b.length - at_ : Nat) : Int) < (w : Int)) = False from eq_false (by omega)]
  refine awp_for (fun k s H' => H' = rH G b (at_ + k) T ∧ s 0 = .ptr (G.length + 1) 0 0 0 ∧ s 6 = du (byteOf (((bitsB b).drop at_).take k)) ∧ s 24 = iA w ∧ s 25 = iA k) w (by omega) (Weak.refl _ _) ?_ ?_ ?_
  · refine ⟨rfl, ?_⟩
    simp (implicitDefEqProofs := false) only [↓reduceIte, go_sem, Nat.reduceLT, Nat.reduceEqDiff, reduceCtorEq, eq_self, List.take_zero, byteOf]
    rfl
  · rintro k s H' hk hw2 ⟨rfl, t0, t6, t24, t25⟩
    have hq : (at_ + k) / 8 < b.length := by omega
    have hm8 : (at_ + k) % 8 < 8 := Nat.mod_lt _ (by decide)
    have hx := List.getElem?_eq_getElem hq
    have hbx := bys_get b _ hq
    have hx8 := hb _ (List.getElem_mem hq)
    generalize b[(at_ + k) / 8] = x at hx hbx hx8
    have hbit := bitsB_get b _ x hx
    have ht := byteOf_take ((bitsB b).drop at_) k _ (by rw [List.getElem?_drop]; exact hbit)
    have hlt := byteOf_lt (((bitsB b).drop at_).take k)
    have hll : (((bitsB b).drop at_).take k).length = k := by rw [List.length_take, List.length_drop, bitsB_len]; omega
    rw [hll] at hlt
    have hu := bitU x _ hx8 hm8
    generalize x.testBit ((at_ + k) % 8) = c at hu ht
    generalize byteOf (((bitsB b).drop at_).take k) = n at hlt ht t6
    have hp63 : 2 ^ k ≤ 2 ^ 63 := Nat.pow_le_pow_right (by decide) (by omega)
    have hcl : c.toNat * 2 ^ k ≤ 2 ^ k := by cases c <;> simp
    have e7 := shlN c.toNat k (by omega) (by omega)
    have e8 := orN n c.toNat k hlt (by omega)
    obtain ⟨p, hp⟩ : ∃ p, p = at_ + k := ⟨_, rfl⟩
    rw [← hp] at hq hm8 hbx hu
    have hwq : IntKind.i64.wrap ((p / 8 : Nat) : Int) = ((p / 8 : Nat) : Int) := wrap64_in _ (by omega) (by omega)
    have hwm : IntKind.u64.wrap ((p % 8 : Nat) : Int) = ((p % 8 : Nat) : Int) := wrapU64N _ (by omega)
    have hwk : IntKind.u64.wrap ((k : Nat) : Int) = ((k : Nat) : Int) := wrapU64N _ (by omega)
    have hw3 : IntKind.i64.wrap ((p : Int) + 1) = ((p + 1 : Nat) : Int) := by rw [wrap64_in _ (by omega) (by omega)]; rfl
    simp only [← hp]
    rw [show at_ + (k + 1) = p + 1 by omega, ht]
    generalize c.toNat * 2 ^ k = y at *
    generalize n + y = z at *
    simp (implicitDefEqProofs := false) only [↓reduceIte, go_sem, Nat.reduceLT, Nat.reduceEqDiff, eq_self, rH, t24, t25, hk]
    refine awp_draw K.mixed (by kernel_rfl) ?_
    simp (implicitDefEqProofs := false) only [↓reduceIte, go_sem, oread, owrite, Nat.reduceAdd, Nat.reduceLT, Nat.reduceLeDiff, Nat.reduceEqDiff, Int.reduceEq, reduceCtorEq, eq_self, rH, t0, t6, t25, divI, modI, hwq, hwm, hwk, hbx, hq, hu, e7, e8]
    refine Rnd.same ⟨?_, ?_⟩
    · simp (implicitDefEqProofs := false) only [go_sem, eq_self, hw3]
    · simp (implicitDefEqProofs := false) only [↓reduceIte, go_sem, Nat.reduceLT, Nat.reduceEqDiff, reduceCtorEq, eq_self, t0, t24, hw2]
  · rintro s H' ⟨rfl, t0, t6, t24, t25⟩
    simp (implicitDefEqProofs := false) only [↓reduceIte, go_sem, Nat.reduceLT, Nat.reduceEqDiff, eq_self, t6, t24, t25]
    rw [hE]
    exact ⟨_, Weak.refl _ _, by simp (implicitDefEqProofs := false) only [↓reduceIte, go_sem, Nat.reduceLT, Nat.reduceEqDiff, eq_self]⟩
end Go.Proofs.YtkapgooedfompaaGreat
namespace Go.Proofs.YtkapgooedfompaaGreat
open Go.Proofs.YtkapgooedfompaaGreatAw Go.RowKit
set_option linter.unusedVariables false
set_option linter.unusedSimpArgs false
def partP (b : List Nat) (w k : Nat) : Nat := byteOf (((bitsB b).drop (k * w)).take w)
def unpackL (b : List Nat) (n w : Nat) : List Nat := (List.range n).map (partP b w)
theorem unpackL_len (b : List Nat) (n w : Nat) : (unpackL b n w).length = n := by simp [unpackL]
theorem unpackL_succ (b : List Nat) (n w : Nat) : unpackL b (n + 1) w = unpackL b n w ++ [partP b w n] := by simp [unpackL, List.range_succ]
def unpackE (b : List Nat) (n w : Nat) : Int := if 8 * b.length < n * w then 3 else if n * w + 8 ≤ 8 * b.length then 4 else if byteOf ((bitsB b).drop (n * w)) = 0 then 0 else 4
def unpackA (b : List Nat) (n w : Nat) : AV := if unpackE b n w = 0 then .d (.list false (us (unpackL b n w))) else .d (.v (.slice none 0 0))
set_option maxRecDepth 10000 in
set_option maxHeartbeats 1000000 in
theorem unpack_does (b : List Nat) (n w : Nat) (nn : Bool) (hl : b.length ≤ 140737488351232) (hb : ∀ c ∈ b, c < 256) (hn : n ≤ 1048576) (hw : w ≤ 64) (H : AHeap) :
    Does Tryz.prog 32 [.d (.list nn (bys b)), iA n, iA w] H (.ok (.tup [unpackA b n w, iA (unpackE b n w)])) H := by
  have hnw : n * w ≤ 1048576 * 64 := Nat.mul_le_mul hn hw
  have c1 : ((n : Int) < 0) = False := eq_false (by omega)
  have c2 : ((1048576 : Int) < (n : Int)) = False := eq_false (by omega)
  have c3 : ((w : Int) < 0) = False := eq_false (by omega)
  have c4 : ((64 : Int) < (w : Int)) = False := eq_false (by omega)
  refine Does.of_awp (hint := (fun _ => false)) Tryz.func32 (by kernel_rfl) rfl [6, 7] (by kernel_rfl) (by decide) (by simp [Tryz.ntmps32]) ?_
  rw [Tryz.ntmps32]
  simp (implicitDefEqProofs := false) only [↓reduceIte, go_sem, Nat.reduceLT, Nat.reduceEqDiff, reduceCtorEq, eq_self, c1, c2, c3, c4]
  refine KCall.ok (from_does b nn hl H) ?_
  simp (implicitDefEqProofs := false) only [↓reduceIte, go_sem, Nat.reduceLT, eq_self]
  refine KCall.ok (left_does b 0 hl (by omega) H []) ?_
  have e1 : IntKind.i64.wrap ((n : Int) * (w : Int)) = ((n * w : Nat) : Int) := by rw [← Int.natCast_mul]; exact wrap64_in _ (by omega) (by omega)
  obtain ⟨r, hr⟩ : ∃ r : Int, r = ((8 * b.length : Nat) : Int) - ((n * w : Nat) : Int) := ⟨_, rfl⟩
  have e2 : IntKind.i64.wrap (((8 * b.length - 0 : Nat) : Int) - ((n * w : Nat) : Int)) = r := by rw [Nat.sub_zero, hr]; exact wrap64_in _ (by omega) (by omega)
  generalize hN : n * w = N at *
  generalize hM : 8 * b.length - 0 = M at *
  simp (implicitDefEqProofs := false) only [↓reduceIte, go_sem, Nat.reduceLT, Nat.reduceEqDiff, eq_self, e1, e2]
  by_cases h1 : r < 0
  · have hE : unpackE b n w = 3 := by unfold unpackE; rw [hN, if_pos (by omega)]
    simp (implicitDefEqProofs := false) only [go_sem, h1]
    unfold rH
    refine AEnd.ret ?_
    simp (implicitDefEqProofs := false) only [↓reduceIte, go_sem, Nat.reduceLT, Nat.reduceEqDiff, eq_self]
    simp [unpackA, hE]
  by_cases h2 : 8 ≤ r
  · have hE : unpackE b n w = 4 := by unfold unpackE; rw [hN, if_neg (by omega), if_pos (by omega)]
    simp (implicitDefEqProofs := false) only [↓reduceIte, go_sem, Nat.reduceLT, Nat.reduceEqDiff, eq_self, h1, h2]
    unfold rH
    refine AEnd.ret ?_
    simp (implicitDefEqProofs := false) only [↓reduceIte, go_sem, Nat.reduceLT, Nat.reduceEqDiff, eq_self]
    simp [unpackA, hE]
  simp (implicitDefEqProofs := false) only [↓reduceIte, go_sem, Nat.reduceLT, Nat.reduceEqDiff, eq_self, h1, h2]
  refine awp_for (fun k s H' => H' = rH H b (k * w) [.arr 48 1 k (us (unpackL b k w))] ∧ s 2 = iA w ∧ s 8 = .ptr (H.length + 1) 0 0 0 ∧ s 9 = iA r ∧ s 10 = .sl (H.length + 2) k 0 k ∧ s 43 = iA n ∧ s 44 = iA k) n (by omega) (Weak.virt1 _ _ 10 48 1 (by decide) (by simp (implicitDefEqProofs := false) only [↓reduceIte, go_sem, Nat.reduceLT, Nat.reduceEqDiff, eq_self]) _) ?_ ?_ ?_
  · refine ⟨?_, ?_⟩
    · simp (implicitDefEqProofs := false) only [go_sem, rH, Nat.zero_mul]
      rfl
    · simp (implicitDefEqProofs := false) only [↓reduceIte, go_sem, Nat.reduceLT, Nat.reduceEqDiff, eq_self, show (rH H b 0 []).length = H.length + 2 from by simp [rH]]
  · rintro k s H' hk hw2 ⟨rfl, t2, t8, t9, t10, t43, t44⟩
    simp (implicitDefEqProofs := false) only [↓reduceIte, go_sem, Nat.reduceLT, Nat.reduceEqDiff, eq_self, t2, t8, t43, t44, hk]
    have hkw : k * w + w ≤ n * w := by rw [← Nat.succ_mul]; exact Nat.mul_le_mul_right _ hk
    have hL := unpackL_len b k w
    have hs : unpackL b (k + 1) w = unpackL b k w ++ [byteOf (((bitsB b).drop (k * w)).take w)] := unpackL_succ b k w
    have hkw2 : (k + 1) * w = k * w + w := Nat.succ_mul k w
    refine KCall.ok (rget_does b (k * w) w hl hb (by omega) hw H _) ?_
    rw [hs, hkw2]
    generalize byteOf (((bitsB b).drop (k * w)).take w) = x
    generalize unpackL b k w = L at *
    generalize k * w = at_ at *
    simp (implicitDefEqProofs := false) only [↓reduceIte, go_sem, Nat.reduceAdd, Nat.reduceLT, Nat.reduceLeDiff, Nat.reduceEqDiff, eq_self, t10, t44, rH, us_len, hL, us_snoc, List.length_singleton]
    refine ⟨by omega, by omega, Rnd.same ⟨?_, ?_⟩⟩
    · simp (implicitDefEqProofs := false) only [go_sem, eq_self]
    · simp (implicitDefEqProofs := false) only [↓reduceIte, go_sem, Nat.reduceLT, Nat.reduceEqDiff, eq_self, t2, t8, t9, t43, hw2]
  · rintro s H' ⟨rfl, t2, t8, t9, t10, t43, t44⟩
    simp (implicitDefEqProofs := false) only [↓reduceIte, go_sem, Nat.reduceLT, Nat.reduceEqDiff, eq_self, t8, t9, t43, t44]
    have hr3 : r = ((8 * b.length - N : Nat) : Int) := by omega
    rw [hN, hr3]
    refine KCall.ok (rget_does b N (8 * b.length - N) hl hb (by omega) (by omega) H _) ?_
    have htk : ((bitsB b).drop N).take (8 * b.length - N) = (bitsB b).drop N := List.take_of_length_le (by rw [List.length_drop, bitsB_len]; exact Nat.le_refl _)
    rw [htk]
    by_cases h0 : byteOf ((bitsB b).drop N) = 0
    · have hE : unpackE b n w = 0 := by unfold unpackE; rw [hN, if_neg (by omega), if_neg (by omega), if_pos h0]
      rw [h0]
      simp (implicitDefEqProofs := false) only [↓reduceIte, go_sem, Nat.reduceLT, Nat.reduceEqDiff, eq_self, t10]
      unfold rH
      refine AEnd.ret ?_
      simp (implicitDefEqProofs := false) only [↓reduceIte, go_sem, Nat.reduceLT, Nat.reduceEqDiff, eq_self]
      rw [show (us (unpackL b n w)).take n = us (unpackL b n w) from take_len _ _ (by rw [us_len, unpackL_len])]
      simp [unpackA, hE]
    · have hE : unpackE b n w = 4 := by unfold unpackE; rw [hN, if_neg (by omega), if_neg (by omega), if_neg h0]
      have h0' : (((byteOf ((bitsB b).drop N) : Nat) : Int) = 0) = False := eq_false (by omega)
      simp (implicitDefEqProofs := false) only [↓reduceIte, go_sem, Nat.reduceLT, Nat.reduceEqDiff, eq_self, h0']
      unfold rH
      refine AEnd.ret ?_
      simp (implicitDefEqProofs := false) only [↓reduceIte, go_sem, Nat.reduceLT, Nat.reduceEqDiff, eq_self]
      simp [unpackA, hE]
end Go.Proofs.YtkapgooedfompaaGreat
namespace Go.Proofs.YtkapgooedfompaaGreat
open Go.Proofs.YtkapgooedfompaaGreatAw Go.RowKit
set_option linter.unusedVariables false
set_option linter.unusedSimpArgs false
theorem zigP_lt {n : Int} (h1 : -9223372036854775808 ≤ n) (h2 : n ≤ 9223372036854775807) : zigP n < 18446744073709551616 := by unfold zigP; split <;> omega
end Go.Proofs.YtkapgooedfompaaGreat
namespace Go.Proofs.YtkapgooedfompaaGreat
open Go.Proofs.YtkapgooedfompaaGreatAw Go.RowKit
set_option linter.unusedVariables false
set_option linter.unusedSimpArgs false
theorem putP_len : ∀ (k n : Nat), n < 128 ^ k → (putP n).length ≤ k + 1 := by
  intro k
  induction k with
  | zero => intro n hn; rw [putP_small (by omega)]; simp
  | succ k ih =>
    intro n hn
    by_cases h : n < 128
    · rw [putP_small h]; simp
    · rw [putP_big h, List.length_cons]
      have := ih (n / 128) (by rw [Nat.div_lt_iff_lt_mul (by decide)]; exact hn)
      omega
theorem plainP_len {l : List Val} {k : Int} (h : plainP l k = 0) : l.length ≤ 4096 := by
  unfold plainP at h
  by_cases h1 : 4096 < l.length
  · rw [if_pos h1] at h
    split at h <;> omega
  · omega
end Go.Proofs.YtkapgooedfompaaGreat
namespace Go.Proofs.YtkapgooedfompaaGreat
open Go.Proofs.YtkapgooedfompaaGreatAw Go.RowKit
set_option linter.unusedVariables false
set_option linter.unusedSimpArgs false
def bstr (l : List Nat) : ByteArray := pushAll (l.map fun (n : Nat) => (n : Int))
theorem asBytes_bys : ∀ l : List Nat, asBytes (bys l) = some (l.map fun (n : Nat) => (n : Int))
  | [] => rfl
  | n :: l => by
    show asBytes ([.v (.int .u8 (n : Int))] :: bys l) = _
    simp only [asBytes, asBytes_bys l]; rfl
theorem bstr_eq (l : List Nat) : pushAll (l.map fun (n : Nat) => (n : Int)) = bstr l := rfl
theorem pushAll_list (ns : List Int) (b : ByteArray) : (ns.foldl (fun r n => r.push (UInt8.ofNat n.toNat)) b).data.toList = b.data.toList ++ ns.map fun n => UInt8.ofNat n.toNat := by
  induction ns generalizing b with
  | nil => simp
  | cons n ns ih => rw [List.foldl_cons, ih]; simp [ByteArray.push]
theorem bstr_list (l : List Nat) : (bstr l).toList = l.map UInt8.ofNat := by
  rw [ByteArray.toList_eq]
  unfold bstr pushAll
  rw [pushAll_list]
  simp [List.map_map, Function.comp_def]
/-- Numbers that are bytes. -/
def Byte (l : List Nat) : Prop := ∀ n ∈ l, n < 256
theorem drop_bys (l : List Nat) (k : Nat) : (bys l).drop k = bys (l.drop k) := by simp [bys, List.map_drop]
theorem take_bys (l : List Nat) (k : Nat) : (bys l).take k = bys (l.take k) := by simp [bys, List.map_take]
def num10 (n : Int) : Val := ⟨1, n, noS⟩
theorem Byte.app {l m : List Nat} (hl : Byte l) (hm : Byte m) : Byte (l ++ m) := fun n hn => by
  rcases List.mem_append.1 hn with h | h
  · exact hl n h
  · exact hm n h
end Go.Proofs.YtkapgooedfompaaGreat
namespace Go.Proofs.YtkapgooedfompaaGreat
open Go.Proofs.YtkapgooedfompaaGreatAw Go.RowKit
set_option linter.unusedVariables false
set_option linter.unusedSimpArgs false
theorem getP_le (b : List Nat) : (getP b).2.1 ≤ b.length := by
  unfold getP
  split <;> simp
theorem numP_lt : ∀ (k acc : Nat) (b : List Nat) (n : Nat), acc < 128 ^ (10 - k) → k ≤ 10 → (numP k acc b).1 = .ok n → n < 18446744073709551616
  | 0, _, _, _, _, _, h => by simp [numP] at h
  | _ + 1, _, [], _, _, _, h => by simp [numP] at h
  | k + 1, acc, c :: b, n, ha, hk, h => by
    have hm : c % 128 < 128 := Nat.mod_lt _ (by decide)
    have hi : 10 - (k + 1) = 9 - k := by omega
    rw [hi] at ha
    have hA : acc + c % 128 * 128 ^ (9 - k) < 128 ^ (9 - k) * 128 := by
      have : c % 128 * 128 ^ (9 - k) ≤ 127 * 128 ^ (9 - k) := Nat.mul_le_mul_right _ (by omega)
      omega
    simp only [numP] at h
    split at h
    · cases h
    · rename_i hbad
      split at h
      · cases h
        by_cases h0 : k = 0
        · subst h0
          have hc : c % 128 ≤ 1 := by omega
          have h2 : c % 128 * 128 ^ 9 ≤ 1 * 128 ^ 9 := Nat.mul_le_mul_right _ hc
          simp only [Nat.sub_zero] at ha ⊢
          omega
        · have h9 : 128 ^ (9 - k) ≤ 128 ^ 8 := Nat.pow_le_pow_right (by decide) (by omega)
          omega
      · by_cases h0 : k = 0
        · subst h0; simp [numP] at h
        · refine numP_lt k _ b n ?_ (by omega) h
          rw [show 10 - k = (9 - k) + 1 by omega, Nat.pow_succ]
          exact hA
theorem getP_lt (b : List Nat) : (getP b).1 < 18446744073709551616 := by
  unfold getP
  split
  · rename_i n r h
    exact numP_lt 10 0 b n (by decide) (Nat.le_refl _) (by rw [h])
  · exact (by decide : (0 : Nat) < 18446744073709551616)
theorem unpackL_lt (b : List Nat) (n w : Nat) (hw : w ≤ 64) : ∀ x ∈ unpackL b n w, x < 18446744073709551616 := by
  intro x hx
  obtain ⟨k, _, rfl⟩ := List.mem_map.1 hx
  have h1 := byteOf_lt (((bitsB b).drop (k * w)).take w)
  have h2 : 2 ^ (((bitsB b).drop (k * w)).take w).length ≤ 2 ^ 64 := Nat.pow_le_pow_right (by decide) (by simp; omega)
  unfold partP
  omega
end Go.Proofs.YtkapgooedfompaaGreat
namespace Go.Proofs.YtkapgooedfompaaGreat
open Go.Proofs.YtkapgooedfompaaGreatAw Go.RowKit
set_option linter.unusedVariables false
set_option linter.unusedSimpArgs false
theorem numP_err : ∀ (k acc : Nat) (b r : List Nat) (e : Int), numP k acc b = (.error e, r) → e ≠ 0
  | 0, _, _, _, _, h => by simp only [numP, Prod.mk.injEq, Except.error.injEq] at h; omega
  | _ + 1, _, [], _, _, h => by simp only [numP, Prod.mk.injEq, Except.error.injEq] at h; omega
  | k + 1, acc, c :: b, r, e, h => by
    unfold numP at h
    split at h
    · simp only [Prod.mk.injEq, Except.error.injEq] at h; omega
    · split at h
      · simp at h
      · exact numP_err k _ b r e h
end Go.Proofs.YtkapgooedfompaaGreat
namespace Go.Proofs.YtkapgooedfompaaGreat
open Go.Proofs.YtkapgooedfompaaGreatAw Go.RowKit
set_option linter.unusedVariables false
def I64 (n : Int) : Prop := -9223372036854775808 ≤ n ∧ n ≤ 9223372036854775807
theorem I64.of {n : Int} (h : (Lit.int .i64 n).wf = true) : I64 n := by
  have h : IntKind.i64.min ≤ n ∧ n ≤ IntKind.i64.max := by simpa [Lit.wf] using h
  have h0 : IntKind.i64.min = -9223372036854775808 := by decide
  have h1 : IntKind.i64.max = 9223372036854775807 := by decide
  exact ⟨by omega, by omega⟩
theorem FitsL.nil_inv {xs : List D} (h : FitsL [] xs) : xs = [] := by cases h; rfl
theorem FitsL.cons_inv {s : Sh} {ss : List Sh} {xs : List D} (h : FitsL (s :: ss) xs) : ∃ x xs', xs = x :: xs' ∧ Fits s x ∧ FitsL ss xs' := by cases h with | cons h t => exact ⟨_, _, rfl, h, t⟩
theorem Fits.int_inv {k : IntKind} {d : D} (h : Fits (.int k) d) : ∃ n, d = .v (.int k n) ∧ (Lit.int k n).wf = true := by cases h with | int k n h => exact ⟨n, rfl, h⟩
theorem Fits.i64_inv {d : D} (h : Fits (.int .i64) d) : ∃ n, d = .v (.int .i64 n) ∧ I64 n := by obtain ⟨n, rfl, g⟩ := Fits.int_inv h; exact ⟨n, rfl, .of g⟩
theorem Fits.str_inv {d : D} (h : Fits .str d) : ∃ s, d = .v (.string s) ∧ s.size ≤ 140737488351232 := by cases h with | str s h => exact ⟨s, rfl, h⟩
theorem Fits.slice_inv {b : Nat} {es : List Sh} {d : D} (h : Fits (.slice b es) d) : ∃ l, d = .list false l ∧ l.length * b ≤ 140737488351232 ∧ ∀ e ∈ l, FitsL es e := by cases h with | slice b es l h1 h2 h => exact ⟨l, rfl, h1, h⟩
theorem map_inv {α : Type} {enc : α → List D} {p : α → Prop} : ∀ {l : List (List D)}, (∀ e ∈ l, ∃ a, e = enc a ∧ p a) → ∃ la : List α, l = la.map enc ∧ ∀ a ∈ la, p a
  | [], _ => ⟨[], rfl, fun a h => by simp at h⟩
  | e :: l, h => by
    obtain ⟨a, rfl, ha⟩ := h e (List.mem_cons_self ..)
    obtain ⟨la, rfl, hl⟩ := map_inv (l := l) fun e he => h e (by simp [he])
    exact ⟨a :: la, rfl, fun b hb => by rcases List.mem_cons.1 hb with rfl | hb; exact ha; exact hl b hb⟩
structure Val.Ok (v : Val) : Prop where
  kind : I64 v.kind
  i : I64 v.i
  s : v.s.size ≤ 140737488351232
structure Atom.Ok (a : Atom) : Prop where
  col : I64 a.col
  op : I64 a.op
  val : a.val.Ok
def shVal : List Sh := [.int .i64, .int .i64, .str]
theorem val_inv {ds : List D} (h : FitsL shVal ds) : ∃ v : Val, ds = v.enc ∧ v.Ok := by
  obtain ⟨x, xs, rfl, hx, h⟩ := FitsL.cons_inv h
  obtain ⟨y, xs, rfl, hy, h⟩ := FitsL.cons_inv h
  obtain ⟨z, xs, rfl, hz, h⟩ := FitsL.cons_inv h
  cases FitsL.nil_inv h
  obtain ⟨k, rfl, hk⟩ := Fits.i64_inv hx
  obtain ⟨i, rfl, hi⟩ := Fits.i64_inv hy
  obtain ⟨s, rfl, hs⟩ := Fits.str_inv hz
  exact ⟨⟨k, i, s⟩, rfl, hk, hi, hs⟩
theorem vals_inv {b : Nat} {d : D} (h : Fits (.slice b shVal) d) : ∃ l : List Val, d = .list false (l.map Val.enc) ∧ l.length * b ≤ 140737488351232 ∧ ∀ v ∈ l, v.Ok := by
  obtain ⟨l, rfl, h1, h2⟩ := Fits.slice_inv h
  obtain ⟨la, rfl, h3⟩ := map_inv (enc := Val.enc) (p := Val.Ok) fun e he => val_inv (h2 e he)
  exact ⟨la, rfl, by simpa using h1, h3⟩
theorem arg_one {P : Program} {t : TypeId} {x : AV} {sh : Sh} (h : ArgOk P t x) (hg : agB P t = some false) (hs : shOf P 9 t = some [sh]) : ∃ d, x = .d d ∧ Fits sh d := by
  rcases h with ⟨_, sh', d, hs', hf, rfl⟩ | ⟨hg', _⟩
  · rw [hs] at hs'; cases hs'; exact ⟨d, rfl, hf⟩
  · rw [hg] at hg'; cases hg'
end Go.Proofs.YtkapgooedfompaaGreat
namespace Go.Proofs.YtkapgooedfompaaGreat
open Go.Proofs.YtkapgooedfompaaGreatAw Go.RowKit
set_option linter.unusedVariables false
set_option linter.unusedSimpArgs false
end Go.Proofs.YtkapgooedfompaaGreat
namespace Go.Proofs.YtkapgooedfompaaGreat
open Go.Proofs.YtkapgooedfompaaGreatAw Go.RowKit
set_option linter.unusedVariables false
set_option linter.unusedSimpArgs false
theorem tdivN (n c : Nat) : Int.tdiv (n : Int) (c : Int) = ((n / c : Nat) : Int) := by rw [Int.tdiv_eq_ediv_of_nonneg (by omega)]; rfl
theorem tmodN (n c : Nat) : Int.tmod (n : Int) (c : Int) = ((n % c : Nat) : Int) := by rw [Int.tmod_eq_emod_of_nonneg (by omega)]; rfl
theorem tdiv2 (n : Nat) : Int.tdiv (n : Int) 2 = ((n / 2 : Nat) : Int) := tdivN n 2
theorem tmod2 (n : Nat) : Int.tmod (n : Int) 2 = ((n % 2 : Nat) : Int) := tmodN n 2
theorem tdiv128 (n : Nat) : Int.tdiv (n : Int) 128 = ((n / 128 : Nat) : Int) := tdivN n 128
theorem tmod128 (n : Nat) : Int.tmod (n : Int) 128 = ((n % 128 : Nat) : Int) := tmodN n 128
theorem wrapDiv {n c : Nat} (h : n < 18446744073709551616) : IntKind.u64.wrap ((n / c : Nat) : Int) = ((n / c : Nat) : Int) := wrapU64N _ (Nat.lt_of_le_of_lt (Nat.div_le_self _ _) h)
theorem div_pow2 (n k : Nat) : n / 2 ^ k / 2 = n / 2 ^ (k + 1) := by rw [Nat.div_div_eq_div_mul, Nat.pow_succ]
theorem nat_eq0 (n : Nat) : ((n : Int) = 0) = (n = 0) := propext ⟨fun h => by omega, fun h => by omega⟩
theorem div_lt0 (n w : Nat) : (n / 2 ^ w = 0) = (n < 2 ^ w) := propext ⟨fun h => by
  rcases Nat.lt_or_ge n (2 ^ w) with h1 | h1
  · exact h1
  · have := Nat.div_pos h1 (Nat.two_pow_pos w); omega, fun h => Nat.div_eq_of_lt h⟩
set_option maxRecDepth 10000 in
theorem fits_does (n w : Nat) (hn : n < 18446744073709551616) (hw : w ≤ 1000) (H : AHeap) : Does Tryz.prog 63 [du n, iA w] H (.ok (bA (decide (n < 2 ^ w)))) H := by
  refine Does.of_awp (hint := (fun _ => false)) Tryz.func63 (by kernel_rfl) rfl [4] (by kernel_rfl) (by decide) (by simp [Tryz.ntmps63]) ?_
  rw [Tryz.ntmps63]
  simp (implicitDefEqProofs := false) only [go_sem]
  refine awp_for3 (fun k s H' => H' = H ∧ s 0 = du (n / 2 ^ k) ∧ s 1 = iA w ∧ s 5 = iA k) w (by omega) (Weak.refl _ _) ?_ ?_ ?_
  · refine ⟨rfl, ?_⟩
    simp (implicitDefEqProofs := false) only [↓reduceIte, go_sem, Nat.reduceLT, Nat.reduceEqDiff, reduceCtorEq, eq_self, Nat.pow_zero, Nat.div_one]
  · rintro k s H' hk hw2 ⟨rfl, t0, t1, t5⟩
    have e := div_pow2 n k
    have hlt : n / 2 ^ k < 18446744073709551616 := Nat.lt_of_le_of_lt (Nat.div_le_self _ _) hn
    have ew := wrapDiv (c := 2) hlt
    rw [← e]
    generalize n / 2 ^ k = m at *
    simp (implicitDefEqProofs := false) only [↓reduceIte, go_sem, Nat.reduceLT, Nat.reduceEqDiff, Int.reduceEq, reduceCtorEq, eq_self, t0, t1, t5, hk, tdiv2, ew]
    refine Rnd.same ⟨rfl, ?_⟩
    simp (implicitDefEqProofs := false) only [↓reduceIte, go_sem, Nat.reduceLT, Nat.reduceEqDiff, reduceCtorEq, eq_self, t1, hw2]
  · rintro s H' ⟨rfl, t0, t1, t5⟩
    simp (implicitDefEqProofs := false) only [↓reduceIte, go_sem, Nat.reduceLT, Nat.reduceEqDiff, reduceCtorEq, eq_self, t0, t1, t5, nat_eq0, div_lt0]
    refine AEnd.ret0 ?_
    simp (implicitDefEqProofs := false) only [↓reduceIte, go_sem, Nat.reduceLT, eq_self]
set_option maxRecDepth 10000 in
set_option maxHeartbeats 1000000 in
theorem rputOwn_does (n0 : Nat) (hn : n0 < 18446744073709551616) (H : AHeap) : Does Tryz.prog 24 [du n0] H (.ok (.sl H.length (putP n0).length 0 (putP n0).length)) (H ++ [.arr 5 1 (putP n0).length (bys (putP n0))]) := by
  refine Does.of_awp (hint := (fun _ => false)) Tryz.func24 (by kernel_rfl) rfl [2] (by kernel_rfl) (by decide) (by simp [Tryz.ntmps24]) ?_
  rw [Tryz.ntmps24]
  simp (implicitDefEqProofs := false) only [go_sem]
  refine awp_loop _ _ _ _ (fun (x : Nat × List Nat) s H' => H' = H ++ [.arr 5 1 x.2.length (bys x.2)] ∧ x.1 * 128 ^ x.2.length ≤ n0 ∧ (x.2.length = 0 ∨ 0 < x.1) ∧ putP n0 = x.2 ++ putP x.1 ∧ s 0 = du x.1 ∧ s 3 = .sl H.length x.2.length 0 x.2.length) (fun x => x.1) (n0, []) (Weak.virt1 _ _ 3 5 1 (by decide) (by simp (implicitDefEqProofs := false) only [↓reduceIte, go_sem, Nat.reduceLT, eq_self]) _) ?_ ?_
  · refine ⟨?_, by simp, .inl rfl, by simp, ?_⟩
    · simp (implicitDefEqProofs := false) only [go_sem, eq_self, bys_nil, List.length_nil]
    · simp (implicitDefEqProofs := false) only [↓reduceIte, go_sem, reduceCtorEq, eq_self, List.length_nil]
  · rintro ⟨n, bs⟩ s H' ⟨rfl, h1, h3, h2, t0, t3⟩
    simp only at h1 h2 h3 t0 t3
    have hb : bs.length < 10 := by
      rcases Nat.lt_or_ge bs.length 10 with h | h
      · exact h
      · exfalso
        have h4 : 128 ^ 10 ≤ 128 ^ bs.length := Nat.pow_le_pow_right (by decide) h
        have h5 : 1 * 128 ^ bs.length ≤ n * 128 ^ bs.length := Nat.mul_le_mul_right _ (by omega)
        omega
    have hnn : n ≤ n0 := Nat.le_trans (Nat.le_mul_of_pos_right _ (Nat.pow_pos (by decide))) h1
    by_cases hlt : (127 : Int) < (n : Int)
    · have hpb : IntKind.u8.wrap (IntKind.u64.wrap (128 + ((n % 128 : Nat) : Int))) = ((n % 128 + 128 : Nat) : Int) := by
        rw [show (128 : Int) + ((n % 128 : Nat) : Int) = ((n % 128 + 128 : Nat) : Int) by omega, wrapU64N _ (by omega)]
        exact wrap8N _ (by omega)
      have hp2 := putP_big (n := n) (by omega)
      have hdw : IntKind.u64.wrap ((n / 128 : Nat) : Int) = ((n / 128 : Nat) : Int) := wrapU64N _ (by omega)
      generalize n % 128 + 128 = m at hpb hp2
      simp (implicitDefEqProofs := false) only [↓reduceIte, go_sem, Nat.reduceLT, Nat.reduceLeDiff, Nat.reduceEqDiff, Int.reduceEq, reduceCtorEq, eq_self, t0, t3, hlt, tmod128, tdiv128, hpb, bys_len, bys_snoc, hdw]
      refine ⟨by omega, by omega, _, _, (n / 128, bs ++ [m]), .refl _ _, ⟨?_, ?_, .inr (by simp only; omega), ?_, ?_⟩, by simp only; omega⟩
      · simp (implicitDefEqProofs := false) only [go_sem, eq_self, List.length_append]
      · simp only [List.length_append, List.length_singleton, Nat.pow_succ]
        have : n / 128 * (128 ^ bs.length * 128) = (n / 128 * 128) * 128 ^ bs.length := by rw [Nat.mul_comm (128 ^ _), ← Nat.mul_assoc]
        rw [this]
        exact Nat.le_trans (Nat.mul_le_mul_right _ (Nat.div_mul_le_self n 128)) h1
      · rw [h2, hp2]; simp
      · simp (implicitDefEqProofs := false) only [↓reduceIte, go_sem, Nat.reduceLT, Nat.reduceEqDiff, reduceCtorEq, eq_self, List.length_append]
    · have hm : n % 256 = n := by omega
      simp (implicitDefEqProofs := false) only [↓reduceIte, go_sem, Nat.reduceLT, Nat.reduceLeDiff, Nat.reduceEqDiff, reduceCtorEq, eq_self, t0, t3, hlt, wrapU8mod, bys_len, hm, bys_snoc]
      have : putP n0 = bs ++ [n] := by rw [h2, putP_small (by omega)]
      rw [this, List.length_append, List.length_singleton]
      exact ⟨by omega, by omega, _, Weak.refl _ _, by simp (implicitDefEqProofs := false) only [↓reduceIte, go_sem, Nat.reduceLT, eq_self]⟩
theorem rput_does (n0 : Nat) (hn : n0 < 18446744073709551616) (H : AHeap) : Does Tryz.prog 24 [du n0] H (.ok (.d (.list false (bys (putP n0))))) H := (rputOwn_does n0 hn H).list (bys_len _)
set_option maxRecDepth 10000 in
theorem rzig_does (n : Int) (h1 : -9223372036854775808 ≤ n) (h2 : n ≤ 9223372036854775807) (H : AHeap) : Does Tryz.prog 59 [iA n] H (.ok (du (zigP n))) H := by
  refine Does.of_awp (hint := (fun _ => false)) Tryz.func59 (by kernel_rfl) rfl [2] (by kernel_rfl) (by decide) (by simp [Tryz.ntmps59]) ?_
  rw [Tryz.ntmps59]
  by_cases h : n < 0
  · have e1 : IntKind.i64.wrap (n + 1) = n + 1 := wrap64_in _ (by omega) (by omega)
    have e2 : IntKind.i64.wrap ((0 - (n + 1))) = (0 - (n + 1)) := wrap64_in _ (by omega) (by omega)
    have e3 : IntKind.u64.wrap ((0 - (n + 1))) = (0 - (n + 1)) := wrapu64_in _ (by omega) (by omega)
    have e4 : IntKind.u64.wrap (2 * (0 - (n + 1))) = 2 * (0 - (n + 1)) := wrapu64_in _ (by omega) (by omega)
    have e5 : IntKind.u64.wrap (2 * (0 - (n + 1)) + 1) = ((zigP n : Nat) : Int) := by rw [wrapu64_in _ (by omega) (by omega)]; unfold zigP; rw [if_neg (by omega)]; omega
    simp (implicitDefEqProofs := false) only [↓reduceIte, go_sem, Nat.reduceLT, reduceCtorEq, eq_self, h, e1, e2, e3, e4, e5]
    refine AEnd.ret0 ?_
    simp (implicitDefEqProofs := false) only [↓reduceIte, go_sem, Nat.reduceLT, eq_self]
  · have e3 : IntKind.u64.wrap n = n := wrapu64_in _ (by omega) (by omega)
    have e4 : IntKind.u64.wrap (2 * n) = ((zigP n : Nat) : Int) := by rw [wrapu64_in _ (by omega) (by omega)]; unfold zigP; rw [if_pos (by omega)]; omega
    simp (implicitDefEqProofs := false) only [↓reduceIte, go_sem, Nat.reduceLT, reduceCtorEq, eq_self, h, e3, e4]
    refine AEnd.ret0 ?_
    simp (implicitDefEqProofs := false) only [↓reduceIte, go_sem, Nat.reduceLT, eq_self]
set_option maxRecDepth 10000 in
theorem rzag_does (n : Nat) (hn : n < 18446744073709551616) (H : AHeap) : Does Tryz.prog 91 [du n] H (.ok (iA (zagP n))) H := by
  have e0 : IntKind.u64.wrap ((n % 2 : Nat) : Int) = ((n % 2 : Nat) : Int) := wrapU64N _ (by omega)
  have e1 : IntKind.u64.wrap ((n / 2 : Nat) : Int) = ((n / 2 : Nat) : Int) := wrapU64N _ (by omega)
  have e2 : IntKind.i64.wrap ((n / 2 : Nat) : Int) = ((n / 2 : Nat) : Int) := wrap64_in _ (by omega) (by omega)
  refine Does.of_awp (hint := (fun _ => false)) Tryz.func91 (by kernel_rfl) rfl [2] (by kernel_rfl) (by decide) (by simp [Tryz.ntmps91]) ?_
  rw [Tryz.ntmps91]
  by_cases h : n % 2 = 1
  · have h' : (((n % 2 : Nat) : Int) = 1) = True := eq_true (by omega)
    have e3 : IntKind.i64.wrap (0 - ((n / 2 : Nat) : Int)) = 0 - ((n / 2 : Nat) : Int) := wrap64_in _ (by omega) (by omega)
    have e4 : IntKind.i64.wrap (0 - ((n / 2 : Nat) : Int) - 1) = zagP n := by rw [wrap64_in _ (by omega) (by omega)]; unfold zagP; rw [if_pos h]; omega
    generalize hx : ((n / 2 : Nat) : Int) = x at *
    generalize hm : ((n % 2 : Nat) : Int) = m at *
    simp (implicitDefEqProofs := false) only [↓reduceIte, go_sem, Nat.reduceLT, Int.reduceEq, reduceCtorEq, eq_self, tmod2, tdiv2, e1, e2, e3, e4, h', hm, hx]
    refine AEnd.ret0 ?_
    simp (implicitDefEqProofs := false) only [↓reduceIte, go_sem, Nat.reduceLT, eq_self]
  · have h' : (((n % 2 : Nat) : Int) = 1) = False := eq_false (by omega)
    have e4 : zagP n = ((n / 2 : Nat) : Int) := by unfold zagP; rw [if_neg h]
    simp (implicitDefEqProofs := false) only [↓reduceIte, go_sem, Nat.reduceLT, Int.reduceEq, reduceCtorEq, eq_self, tmod2, tdiv2, e1, e2, h']
    refine AEnd.ret0 ?_
    simp (implicitDefEqProofs := false) only [↓reduceIte, go_sem, Nat.reduceLT, eq_self, e4]
end Go.Proofs.YtkapgooedfompaaGreat
namespace Go.Proofs.YtkapgooedfompaaGreat
open Go.Proofs.YtkapgooedfompaaGreatAw Go.RowKit
set_option linter.unusedVariables false
set_option linter.unusedSimpArgs false
def bls (l : List Bool) : List (List D) := l.map fun b => [.v (.bool b)]
theorem take_lenD (l : List (List D)) (n : Nat) (h : l.length = n) : l.take n = l := List.take_of_length_le (by omega)
theorem bls_len (l : List Bool) : (bls l).length = l.length := by simp [bls]
theorem bls_get (l : List Bool) (k : Nat) (h : k < l.length) : (bls l)[k]? = some [.v (.bool l[k])] := by simp [bls, h]
theorem bls_snoc (l : List Bool) (b : Bool) : bls l ++ [[.v (.bool b)]] = bls (l ++ [b]) := by simp [bls]
theorem bls_one (l : List Bool) : (∀ c ∈ bls l, c.length = 1) = True := eq_true fun c hc => by obtain ⟨x, _, rfl⟩ := List.mem_map.1 hc; rfl
theorem bls_drop (l : List Bool) (k : Nat) : (bls l).drop k = bls (l.drop k) := by simp [bls, List.map_drop]
theorem weightNext (k : Nat) (h : (k + 1) % 8 ≠ 0) : IntKind.u8.wrap (((2 ^ (k % 8) : Nat) : Int) * 2) = ((2 ^ ((k + 1) % 8) : Nat) : Int) := by
  rw [show (k + 1) % 8 = k % 8 + 1 by omega, Nat.pow_succ]
  have h2 : 2 ^ (k % 8) ≤ 2 ^ 6 := Nat.pow_le_pow_right (by decide) (by omega)
  have h3 : ((2 ^ (k % 8) : Nat) : Int) * 2 = ((2 ^ (k % 8) * 2 : Nat) : Int) := by push_cast; rfl
  rw [h3]
  exact wrapu8_in _ (by omega) (by omega)
theorem set_same (R : List Nat) (i B : Nat) (h : R[i]? = some B) : R.set i B = R := by
  refine List.ext_getElem? fun j => ?_
  by_cases hj : i = j
  · subst hj
    rw [List.getElem?_set_self (List.getElem?_eq_some_iff.1 h).1, h]
  · rw [List.getElem?_set_ne hj]
theorem byteSum (l : List Bool) : IntKind.u8.wrap (((byteAt l (l.length / 8) : Nat) : Int) + ((2 ^ (l.length % 8) : Nat) : Int)) = ((byteAt l (l.length / 8) + 2 ^ (l.length % 8) : Nat) : Int) := by
  have h1 := byteAt_last_lt l
  have h2 : 2 ^ (l.length % 8) ≤ 2 ^ 7 := Nat.pow_le_pow_right (by decide) (by omega)
  exact wrapu8_in _ (by omega) (by omega)
set_option maxRecDepth 10000 in
set_option maxHeartbeats 1000000 in
theorem rbytes_does (l : List Bool) (nn : Bool) (hl : l.length ≤ 100000000) (H : AHeap) : Does Tryz.prog 64 [.d (.list nn (bls l))] H (.ok (.d (.list false (bys (packB l))))) H := by
  refine Does.of_awp (hint := (fun _ => false)) Tryz.func64 (by kernel_rfl) rfl [2] (by kernel_rfl) (by decide) (by simp [Tryz.ntmps64]) ?_
  rw [Tryz.ntmps64]
  simp (implicitDefEqProofs := false) only [go_sem]
  refine awp_for3 (fun k s H' => H' = H ++ [.arr 5 1 (packB (l.take k)).length (bys (packB (l.take k)))] ∧ (∃ wt : Int, s 4 = .d (.v (.int .u8 wt)) ∧ (k % 8 ≠ 0 → wt = ((2 ^ (k % 8) : Nat) : Int))) ∧ s 0 = .d (.list nn (bls l)) ∧ s 3 = .sl H.length (packB (l.take k)).length 0 (packB (l.take k)).length ∧ s 5 = iA k) l.length (by omega) (Weak.virt1 _ _ 3 5 1 (by decide) (by simp (implicitDefEqProofs := false) only [↓reduceIte, go_sem, Nat.reduceLT, Nat.reduceEqDiff, eq_self]) _) ?_ ?_ ?_
  · rw [show packB (l.take 0) = [] from by rw [List.take_zero]; rfl]
    refine ⟨rfl, ⟨1, ?_, fun h => absurd rfl h⟩, ?_⟩
    · simp (implicitDefEqProofs := false) only [↓reduceIte, go_sem, Nat.reduceLT, Nat.reduceEqDiff, eq_self]
    · simp (implicitDefEqProofs := false) only [↓reduceIte, go_sem, Nat.reduceLT, Nat.reduceEqDiff, reduceCtorEq, eq_self, List.length_nil]
  · rintro k s H' hk hw ⟨rfl, ⟨wt, t4, hwt⟩, t0, t3, t5⟩
    have hx := bls_get l k hk
    have hs := packB_snoc (l.take k) l[k]
    rw [← List.take_succ_eq_append_getElem hk] at hs
    have hkl : (l.take k).length = k := by rw [List.length_take]; omega
    have hg := packR_get (l.take k)
    have hrl := packR_len (l.take k)
    have hsum := byteSum (l.take k)
    have hwn := weightNext k
    have hfull : k % 8 = 0 → packR (l.take k) = packB (l.take k) ++ [0] := fun h => packR_full (by rw [hkl]; exact h)
    have hpart : ¬ k % 8 = 0 → packR (l.take k) = packB (l.take k) := fun h => packR_part (by rw [hkl]; exact h)
    have hpl := packB_len (l.take k)
    rw [hkl] at hs hg hrl hsum hpl
    have hlen2 : (packB (l.take (k + 1))).length = (packR (l.take k)).length := by rw [hs, List.length_set]
    generalize packB (l.take (k + 1)) = P2 at *
    generalize packB (l.take k) = P at *
    generalize packR (l.take k) = R at *
    generalize hB : byteAt (l.take k) (k / 8) = B at *
    generalize l[k] = b at *
    clear hB
    have hget : (bys R)[k / 8]? = some [.v (.int .u8 (B : Int))] := by unfold bys; rw [List.getElem?_map, hg]; rfl
    have hlt : k / 8 < R.length := by omega
    have hset : ∀ m : Nat, (bys R).set (k / 8) [.v (.int .u8 (m : Int))] = bys (R.set (k / 8) m) := fun m => bys_set R _ m
    generalize hW : ((2 ^ (k % 8) : Nat) : Int) = W at *
    have hset2 : (bys R).set (k / 8) [.v (.int .u8 ((B : Int) + ((2 ^ (k % 8) : Nat) : Int)))] = bys (R.set (k / 8) (B + 2 ^ (k % 8))) := by have := hset (B + 2 ^ (k % 8)); push_cast at this ⊢; exact this
    have e0 : b = false → P2 = R := fun h => by rw [hs, h]; simp only [Bool.toNat_false, Nat.zero_mul, Nat.add_zero]; exact set_same R _ B hg
    have e1 : b = true → P2 = R.set (k / 8) (B + 2 ^ (k % 8)) := fun h => by rw [hs, h]; simp
    have w8 : IntKind.i64.wrap ((k / 8 : Nat) : Int) = ((k / 8 : Nat) : Int) := wrapI _ (by omega)
    have hne : (k + 1) % 8 ≠ 0 → (k + 1) % 8 ≠ 0 := id
    generalize hV : ((2 ^ ((k + 1) % 8) : Nat) : Int) = V at *
    generalize hU : IntKind.u8.wrap (W * 2) = U at *
    by_cases h8 : k % 8 = 0
    · have hR := hfull h8
      have q0 : bys P ++ [[.v (.int .u8 0)]] = bys R := by rw [hR]; exact bys_snoc P 0
      have hPR : P.length + 1 = R.length := by rw [hR]; simp
      have hPI : (P.length : Int) + 1 = (R.length : Int) := by omega
      have hW1 : W = 1 := by rw [← hW, h8]; rfl
      subst hW1
      rw [show (1 : Int) * 2 = 2 from rfl] at hU
      cases b with
      | true =>
        have e1 := e1 rfl
        generalize 2 ^ (k % 8) = m at *
        simp (implicitDefEqProofs := false) only [↓reduceIte, go_sem, Nat.reduceLT, Nat.reduceLeDiff, Nat.reduceEqDiff, Int.reduceEq, reduceCtorEq, eq_self, t0, t3, t5, modI, divI, eq_true h8, bls_len, hk, hx, nat_eq0, bys_len, q0]
        refine ⟨by omega, by omega, ?_⟩
        simp (implicitDefEqProofs := false) only [↓reduceIte, go_sem, oread, owrite, Nat.reduceLT, Nat.reduceEqDiff, Int.reduceMul, eq_self, t5, hlt, hPR, hPI, hget, hsum, w8, hU]
        refine Rnd.same ⟨?_, ⟨_, rfl, hwn⟩, ?_⟩
        · simp (implicitDefEqProofs := false) only [go_sem, eq_self, e1, hset2, List.length_set]
        · simp (implicitDefEqProofs := false) only [↓reduceIte, go_sem, Nat.reduceLT, Nat.reduceEqDiff, reduceCtorEq, eq_self, t0, hw, hlen2]
      | false =>
        have e0 := e0 rfl
        simp (implicitDefEqProofs := false) only [↓reduceIte, go_sem, Nat.reduceLT, Nat.reduceLeDiff, Nat.reduceEqDiff, Int.reduceEq, Int.reduceMul, reduceCtorEq, eq_self, t0, t3, t5, modI, eq_true h8, bls_len, hk, hx, nat_eq0, bys_len, q0]
        refine ⟨by omega, by omega, ?_⟩
        simp (implicitDefEqProofs := false) only [go_sem, hPR, hU]
        refine Rnd.same ⟨?_, ⟨_, rfl, hwn⟩, ?_⟩
        · simp (implicitDefEqProofs := false) only [go_sem, eq_self, e0]
        · simp (implicitDefEqProofs := false) only [↓reduceIte, go_sem, Nat.reduceLT, Nat.reduceEqDiff, reduceCtorEq, eq_self, t0, hw, e0]
    · have hR := hpart h8
      have hW2 := hwt h8
      subst hW2
      rw [← hR]
      cases b with
      | true =>
        have e1 := e1 rfl
        generalize 2 ^ (k % 8) = m at *
        simp (implicitDefEqProofs := false) only [↓reduceIte, go_sem, oread, owrite, Nat.reduceLT, Nat.reduceEqDiff, Int.reduceEq, reduceCtorEq, eq_self, t0, t3, t4, t5, modI, divI, eq_false h8, bls_len, hk, hx, nat_eq0, ← hR, hlt, hget, hsum, w8, hU]
        refine Rnd.same ⟨?_, ⟨_, rfl, hwn⟩, ?_⟩
        · simp (implicitDefEqProofs := false) only [go_sem, eq_self, e1, hset2, List.length_set]
        · simp (implicitDefEqProofs := false) only [↓reduceIte, go_sem, Nat.reduceLT, Nat.reduceEqDiff, reduceCtorEq, eq_self, t0, hw, t3, hlen2, hR]
      | false =>
        have e0 := e0 rfl
        simp (implicitDefEqProofs := false) only [↓reduceIte, go_sem, Nat.reduceLT, Nat.reduceEqDiff, Int.reduceEq, reduceCtorEq, eq_self, t0, t4, t5, modI, eq_false h8, bls_len, hk, hx, nat_eq0, hU]
        refine Rnd.same ⟨?_, ⟨_, rfl, hwn⟩, ?_⟩
        · simp (implicitDefEqProofs := false) only [go_sem, eq_self, e0]
        · simp (implicitDefEqProofs := false) only [↓reduceIte, go_sem, Nat.reduceLT, Nat.reduceEqDiff, reduceCtorEq, eq_self, t0, hw, t3, e0, hR]
  · rintro s H' ⟨rfl, ⟨wt, t4, hwt⟩, t0, t3, t5⟩
    rw [show l.take l.length = l from List.take_length] at *
    simp (implicitDefEqProofs := false) only [↓reduceIte, go_sem, Nat.reduceLT, Nat.reduceEqDiff, reduceCtorEq, eq_self, t0, t3, t5, bls_len]
    refine AEnd.ret ?_
    simp (implicitDefEqProofs := false) only [↓reduceIte, go_sem, Nat.reduceLT, eq_self, take_lenD (bys (packB l)) (packB l).length (bys_len _)]
end Go.Proofs.YtkapgooedfompaaGreat

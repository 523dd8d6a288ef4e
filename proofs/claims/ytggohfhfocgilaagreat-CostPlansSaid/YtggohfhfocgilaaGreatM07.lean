/- Contracts of functions and lemmas for costPlans_holds, part 7. -/
import Derived.Recover
import Derived.Test.YtggohfhfocgilaaGreatM06
set_option maxHeartbeats 8000000
set_option maxRecDepth 100000
set_option linter.all false
namespace Go.Proofs.YtggohfhfocgilaaGreat
open Go.Proofs.YtggohfhfocgilaaGreatAw Go.RowKit
theorem u7(n:Nat)(h:n<18446744073709551616):IntKind.u64.wrap (n:Int)=n:=by
 simp[IntKind.wrap,IntKind.signed,IntKind.bits];omega
theorem kG(b:Nat)(hb:b<18446744073709551616)(H:aa):ah Tryz.prog 242 [du b] H (.ok (.bq [bA (decide (9223372036854775808≤b)),du (b/4503599627370496%2048),du (b%4503599627370496)])) H:=by
 have e1:(b:Int).tdiv 4503599627370496=((b/4503599627370496:Nat):Int):=rfl
 have e2:((b/4503599627370496:Nat):Int).tmod 2048=((b/4503599627370496%2048:Nat):Int):=rfl
 have e3:(b:Int).tmod 4503599627370496=((b%4503599627370496:Nat):Int):=rfl
 have e4:((9223372036854775808:Int)≤(b:Int))=(9223372036854775808≤b):=by simp;omega
 refine ah.aj (hint:=(fun _=>false)) Tryz.func242 (by kernel_rfl) rfl [2,3,4] (by kernel_rfl) (by decide) (by simp[Tryz.ntmps242]) ?_
 rw[Tryz.ntmps242]
 simp -implicitDefEqProofs only[↓reduceIte,go_sem,Nat.reduceLT,Nat.reduceEqDiff,Int.reduceEq,reduceCtorEq,e1,e2,e3,u7 _ (show b/4503599627370496<18446744073709551616 by omega)]
 refine ao.aF ?_
 simp -implicitDefEqProofs only[↓reduceIte,go_sem,Nat.reduceLT,Nat.reduceEqDiff,e4]
theorem EN(b:Nat):(decide (b/4503599627370496%2048=2047)&& !decide (b%4503599627370496=0))=tZ b:=by
 unfold tZ
 rw[Bool.eq_iff_iff]
 simp only[Bool.and_eq_true,decide_eq_true_eq,Bool.not_eq_true',decide_eq_false_iff_not]
 omega
theorem vA(b:Nat)(hb:b<18446744073709551616)(H:aa):ah Tryz.prog 262 [du b] H (.ok (bA (tZ b))) H:=by
 rw[←EN]
 have hp:=kG b hb H
 generalize b/4503599627370496%2048=e at hp⊢
 generalize b%4503599627370496=f at hp⊢
 have e1:(((e:Nat):Int)=2047)=(e=2047):=by simp;omega
 have e2:(((f:Nat):Int)=0)=(f=0):=by simp
 refine ah.aj (hint:=(fun _=>false)) Tryz.func262 (by kernel_rfl) rfl [2] (by kernel_rfl) (by decide) (by simp[Tryz.ntmps262]) ?_
 rw[Tryz.ntmps262]
 simp -implicitDefEqProofs only[↓reduceIte,go_sem,Nat.reduceLT,reduceCtorEq]
 refine ab.ok hp ?_
 simp -implicitDefEqProofs only[↓reduceIte,go_sem,Nat.reduceLT,Nat.reduceEqDiff]
 by_cases h:e=2047
 ·simp -implicitDefEqProofs only[↓reduceIte,go_sem,Nat.reduceLT,Nat.reduceEqDiff,e2,h]
  refine ao.aF ?_
  simp -implicitDefEqProofs only[↓reduceIte,go_sem,Nat.reduceLT,h]
 ·simp -implicitDefEqProofs only[↓reduceIte,go_sem,Nat.reduceLT,Nat.reduceEqDiff,reduceCtorEq,e1,h]
  refine ao.aF ?_
  simp -implicitDefEqProofs only[↓reduceIte,go_sem,Nat.reduceLT,h]
theorem qA(b:Nat)(hb:b<18446744073709551616)(H:aa):ah Tryz.prog 241 [du b] H (.ok (du (dN b))) H:=by
 unfold dN
 refine ah.aj (hint:=(fun _=>false)) Tryz.func241 (by kernel_rfl) rfl [2] (by kernel_rfl) (by decide) (by simp[Tryz.ntmps241]) ?_
 rw[Tryz.ntmps241]
 simp -implicitDefEqProofs only[↓reduceIte,go_sem,Nat.reduceLT,reduceCtorEq]
 refine ab.ok (vA b hb _) ?_
 cases h:tZ b with
 |true=>
  simp -implicitDefEqProofs only[↓reduceIte,go_sem,Nat.reduceLT]
  refine ao.aF ?_
  simp -implicitDefEqProofs only[↓reduceIte,go_sem,Nat.reduceLT]
  rfl
 |false=>
  simp -implicitDefEqProofs only[↓reduceIte,go_sem,Nat.reduceLT,reduceCtorEq]
  refine ao.aF ?_
  simp -implicitDefEqProofs only[↓reduceIte,go_sem,Nat.reduceLT,Bool.false_eq_true]
theorem na(b:Nat)(hb:b<18446744073709551616)(H:aa):ah Tryz.prog 209 [du b] H (.ok (du (fX b))) H:=by
 have hc:=qA b hb H
 have hlt:=lE b hb
 unfold fX
 generalize dN b=c at hc hlt⊢
 refine ah.aj (hint:=(fun _=>false)) Tryz.func209 (by kernel_rfl) rfl [2] (by kernel_rfl) (by decide) (by simp[Tryz.ntmps209]) ?_
 rw[Tryz.ntmps209]
 simp -implicitDefEqProofs only[↓reduceIte,go_sem,Nat.reduceLT,reduceCtorEq]
 refine ab.ok hc ?_
 simp -implicitDefEqProofs only[↓reduceIte,go_sem,Nat.reduceLT]
 refine ab.ok (kG c hlt _) ?_
 simp -implicitDefEqProofs only[↓reduceIte,go_sem,Nat.reduceLT,Nat.reduceEqDiff]
 by_cases h:9223372036854775808≤c
 ·have e1:IntKind.u64.wrap ((18446744073709551615:Int)-(c:Int))=((18446744073709551615-c:Nat):Int):=by rw[show(18446744073709551615:Int)-(c:Int)=((18446744073709551615-c:Nat):Int)from by omega];exact u7 _ (by omega)
  simp -implicitDefEqProofs only[↓reduceIte,go_sem,Nat.reduceLT,Nat.reduceEqDiff,h,e1]
  refine ao.aF ?_
  simp -implicitDefEqProofs only[↓reduceIte,go_sem,Nat.reduceLT,h]
 ·have e2:(c:Int)+9223372036854775808=((c+9223372036854775808:Nat):Int):=by omega
  have e1:IntKind.u64.wrap ((c:Int)+9223372036854775808)=((c+9223372036854775808:Nat):Int):=by rw[show(c:Int)+9223372036854775808=((c+9223372036854775808:Nat):Int)from by omega];exact u7 _ (by omega)
  simp -implicitDefEqProofs only[↓reduceIte,go_sem,Nat.reduceLT,Nat.reduceEqDiff,h,e1]
  refine ao.aF ?_
  simp -implicitDefEqProofs only[↓reduceIte,go_sem,Nat.reduceLT,h,du,Int.natCast_add]
  try rfl
theorem tu(a b:Nat)(ha:a<18446744073709551616)(hb:b<18446744073709551616)(H:aa):ah Tryz.prog 173 [du a,du b] H (.ok (iA (uN a b))) H:=by
 have k1:=na a ha H
 have k2:=na b hb H
 unfold uN
 generalize fX a=x at k1⊢
 generalize fX b=y at k2⊢
 refine ah.aj (hint:=(fun _=>false)) Tryz.func173 (by kernel_rfl) rfl [4] (by kernel_rfl) (by decide) (by simp[Tryz.ntmps173]) ?_
 rw[Tryz.ntmps173]
 simp -implicitDefEqProofs only[↓reduceIte,go_sem,Nat.reduceLT,Int.reduceNeg,reduceCtorEq]
 refine ab.ok k1 ?_
 simp -implicitDefEqProofs only[↓reduceIte,go_sem,Nat.reduceLT,Nat.reduceEqDiff]
 refine ab.ok k2 ?_
 simp -implicitDefEqProofs only[↓reduceIte,go_sem,Nat.reduceLT,Nat.reduceEqDiff,Int.reduceNeg]
 by_cases h:x<y
 ·refine cF (by simp -implicitDefEqProofs only[go_sem,h]) ?_
  simp -implicitDefEqProofs only[go_sem,Int.reduceNeg]
  refine ao.aF ?_
  simp -implicitDefEqProofs only[↓reduceIte,go_sem,Nat.reduceLT,Int.reduceNeg,c9,h]
 ·refine cx (by simp -implicitDefEqProofs only[go_sem,h]) ?_
  simp -implicitDefEqProofs only[↓reduceIte,go_sem,Nat.reduceLT,reduceCtorEq]
  refine ab.ok k1 ?_
  simp -implicitDefEqProofs only[↓reduceIte,go_sem,Nat.reduceLT,Nat.reduceEqDiff]
  refine ab.ok k2 ?_
  simp -implicitDefEqProofs only[↓reduceIte,go_sem,Nat.reduceLT,Nat.reduceEqDiff]
  by_cases h2:y<x
  ·refine cF (by simp -implicitDefEqProofs only[go_sem,h2]) ?_
   simp -implicitDefEqProofs only[go_sem]
   refine ao.aF ?_
   simp -implicitDefEqProofs only[↓reduceIte,go_sem,Nat.reduceLT,reduceCtorEq,c9,h,h2]
  ·refine cx (by simp -implicitDefEqProofs only[go_sem,h2]) ?_
   simp -implicitDefEqProofs only[go_sem]
   refine ao.aF ?_
   simp -implicitDefEqProofs only[↓reduceIte,go_sem,Nat.reduceLT,reduceCtorEq,c9,h,h2]
theorem dO(less more:Bool)(H:aa):ah Tryz.prog 172 [bA less,bA more] H (.ok (iA (c9 less more))) H:=by
 unfold c9
 refine ah.aj (hint:=(fun _=>false)) Tryz.func172 (by kernel_rfl) rfl [4] (by kernel_rfl) (by decide) (by simp[Tryz.ntmps172]) ?_
 rw[Tryz.ntmps172]
 cases less with
 |true=>
  simp -implicitDefEqProofs only[↓reduceIte,go_sem,Nat.reduceLT,Int.reduceNeg,reduceCtorEq]
  refine ao.aF ?_
  simp -implicitDefEqProofs only[↓reduceIte,go_sem,Nat.reduceLT,Int.reduceNeg]
 |false=>
  cases more with
  |true=>
   simp -implicitDefEqProofs only[↓reduceIte,go_sem,Nat.reduceLT,Nat.reduceEqDiff,Int.reduceNeg,reduceCtorEq]
   refine ao.aF ?_
   simp -implicitDefEqProofs only[↓reduceIte,go_sem,Nat.reduceLT,Bool.false_eq_true]
  |false=>
   simp -implicitDefEqProofs only[↓reduceIte,go_sem,Nat.reduceLT,Nat.reduceEqDiff,Int.reduceNeg,reduceCtorEq]
   refine ao.aF ?_
   simp -implicitDefEqProofs only[↓reduceIte,go_sem,Nat.reduceLT,Bool.false_eq_true]
def ph(a b:List UInt8):Int:=c9 (Op.bytesLess a b) (!(Op.bytesLess a b||a==b))
theorem p9(x y:UInt8)(a b:List UInt8):ph (x::a) (y::b)=if x.toNat<y.toNat then -1 else if y.toNat<x.toNat then 1 else ph a b:=by
 unfold ph
 by_cases h:x<y
 ·have h':x.toNat<y.toNat:=h
  simp[Op.bytesLess,h,h',c9]
 ·have h':¬x.toNat<y.toNat:=h
  by_cases h2:y.toNat<x.toNat
  ·have hne:(x==y)=false:=by
    rw[beq_eq_false_iff_ne];intro e;subst e;omega
   have hne':¬x=y:=by simpa using hne
   simp[Op.bytesLess,h,h',h2,c9,hne']
  ·have e:x=y:=UInt8.toNat_inj.1 (by omega)
   subst e
   simp[Op.bytesLess,c9]
theorem oK(b:List UInt8):ph [] b=c9 (decide (0<b.length)) false:=by
 cases b<;>simp[ph,Op.bytesLess,c9]
theorem jr(a:List UInt8):ph a []=c9 false (decide (0<a.length)):=by
 cases a<;>simp[ph,Op.bytesLess,c9]
theorem mv(a:ByteArray):a.toList.length=a.size:=by rw[ByteArray.toList_eq];simp
theorem nd(a:ByteArray)(k:Nat):a[k]?=a.toList[k]?:=by
 rw[ByteArray.toList_eq]
 by_cases h:k<a.size
 ·simp[h]
  rfl
 ·simp[h]
theorem pZ(a b:List UInt8):∀(k:Nat),k≤a.length→k≤b.length→(∀i,i<k→a[i]?=b[i]?)→ph a b=ph (a.drop k) (b.drop k):=by
 intro k
 induction k with
 |zero=>intros;rfl
 |succ k ih=>
  intro h1 h2 h
  rw[ih (by omega) (by omega) fun i hi=>h i (by omega)]
  have e:=h k (by omega)
  rw[List.getElem?_eq_getElem (by omega),List.getElem?_eq_getElem (by omega)]at e
  rw[List.drop_eq_getElem_cons (show k<a.length by omega),List.drop_eq_getElem_cons (show k<b.length by omega),p9]
  have e:a[k]=b[k]:=by simpa using e
  rw[e]
  simp
theorem ry(a b:ByteArray)(ha:a.size≤9223372036854775807)(H:aa):ah Tryz.prog 174 [sA a,sA b] H (.ok (iA (lJ a b))) H:=by
 have hcmp:lJ a b=ph a.toList b.toList:=rfl
 have g1:∀k,a[k]?=a.toList[k]?:=nd a
 have g2:∀k,b[k]?=b.toList[k]?:=nd b
 have s1:=mv a
 have s2:=mv b
 have c1:∀(x y:UInt8),(((x.toNat:Nat):Int)<((y.toNat:Nat):Int))=(x.toNat<y.toNat):=fun x y=>by simp
 rw[hcmp]
 refine ah.aj (hint:=(fun _=>false)) Tryz.func174 (by kernel_rfl) rfl [4] (by kernel_rfl) (by decide) (by simp[Tryz.ntmps174]) ?_
 rw[Tryz.ntmps174]
 simp -implicitDefEqProofs only[go_sem,Int.reduceNeg]
 refine aP (fun k s H'=>H'=H∧(∀i,i<k→a.toList[i]?=b.toList[i]?)∧s 0=sA a∧s 1=sA b∧s 5=iA k) (min a.size b.size) (by omega) (an.refl _ _) ?_ ?_ ?_
 ·refine⟨rfl,fun i hi=>by omega,?_⟩
  simp -implicitDefEqProofs only[↓reduceIte,go_sem,Nat.reduceLT,Nat.reduceEqDiff,reduceCtorEq]
 ·rintro k s H' hk hw ⟨rfl,hp,h0,h1,h5⟩
  have k1:k<a.size:=by omega
  have k2:k<b.size:=by omega
  have e1:(k<a.size)=True:=eq_true (by omega)
  have e2:(k<b.size)=True:=eq_true (by omega)
  simp -implicitDefEqProofs only[↓reduceIte,go_sem,Nat.reduceLT,Nat.reduceEqDiff,reduceCtorEq,h0,h1,h5,e1,e2]
  have x1:a[k]?=some a.toList[k]:=by rw[g1];exact List.getElem?_eq_getElem (by omega)
  have x2:b[k]?=some b.toList[k]:=by rw[g2];exact List.getElem?_eq_getElem (by omega)
  have hd:=pZ a.toList b.toList k (by omega) (by omega) hp
  rw[List.drop_eq_getElem_cons (show k<a.toList.length by omega),List.drop_eq_getElem_cons (show k<b.toList.length by omega),p9]at hd
  have hp':a.toList[k]=b.toList[k]→∀i,i<k+1→a.toList[i]?=b.toList[i]?:=fun e i hi=>by
   rcases Nat.lt_or_ge i k with h|h
   ·exact hp i h
   ·obtain rfl:i=k:=by omega
    rw[List.getElem?_eq_getElem (by omega),List.getElem?_eq_getElem (by omega),e]
  generalize a.toList[k]=x at x1 hd hp'
  generalize b.toList[k]=y at x2 hd hp'
  refine aR K.mixed (by kernel_rfl) ?_
  simp -implicitDefEqProofs only[↓reduceIte,go_sem,Nat.reduceLT,Nat.reduceEqDiff,Int.reduceNeg,reduceCtorEq,h0,h1,h5,x1,x2,c1]
  by_cases hxy:x.toNat<y.toNat
  ·refine cF (by simp -implicitDefEqProofs only[go_sem,hxy]) ?_
   simp -implicitDefEqProofs only[go_sem,Int.reduceNeg]
   refine ao.aF ?_
   rw[hd,if_pos hxy]
   simp -implicitDefEqProofs only[↓reduceIte,go_sem,Nat.reduceLT,Int.reduceNeg]
  ·refine cx (by simp -implicitDefEqProofs only[go_sem,hxy]) ?_
   simp -implicitDefEqProofs only[go_sem]
   refine aR K.mixed (by kernel_rfl) ?_
   simp -implicitDefEqProofs only[↓reduceIte,go_sem,Nat.reduceLT,Nat.reduceEqDiff,reduceCtorEq,h0,h1,h5,x1,x2,c1]
   by_cases hyx:y.toNat<x.toNat
   ·refine cF (by simp -implicitDefEqProofs only[go_sem,hyx]) ?_
    simp -implicitDefEqProofs only[go_sem]
    refine ao.aF ?_
    rw[hd,if_neg hxy,if_pos hyx]
    simp -implicitDefEqProofs only[↓reduceIte,go_sem,Nat.reduceLT]
   ·refine cx (by simp -implicitDefEqProofs only[go_sem,hyx]) ?_
    simp -implicitDefEqProofs only[↓reduceIte,go_sem,Nat.reduceLT,Nat.reduceEqDiff,h5]
    have e:x=y:=UInt8.toNat_inj.1 (by omega)
    refine cO.same ⟨rfl,hp' e,?_⟩
    simp -implicitDefEqProofs only[↓reduceIte,go_sem,Nat.reduceLT,Nat.reduceEqDiff,reduceCtorEq,h0,h1,hw]
 ·rintro s H' ⟨rfl,hp,h0,h1,h5⟩
  have hd:=pZ a.toList b.toList (min a.size b.size) (by omega) (by omega) hp
  rcases Nat.lt_or_ge a.size b.size with hlt|hge
  ·have e0:min a.size b.size=a.size:=by omega
   rw[e0]at h5 hd
   have e1:(a.size<a.size)=False:=eq_false (by omega)
   have e2:(a.size<b.size)=True:=eq_true (by omega)
   have e3:(b.size<a.size)=False:=eq_false (by omega)
   simp -implicitDefEqProofs only[↓reduceIte,go_sem,Nat.reduceLT,Nat.reduceEqDiff,reduceCtorEq,h0,h1,h5,e1]
   refine ab.ok (dO _ _ _) ?_
   simp -implicitDefEqProofs only[↓reduceIte,go_sem,Nat.reduceLT]
   refine ao.aF ?_
   rw[hd,List.drop_of_length_le (Nat.le_of_eq s1),oK,List.length_drop]
   simp -implicitDefEqProofs only[↓reduceIte,go_sem,Nat.reduceLT,e2,e3,show(0<b.toList.length-a.size)=True from eq_true (by omega)]
  ·have e0:min a.size b.size=b.size:=by omega
   rw[e0]at h5 hd
   have e1:(b.size<b.size)=False:=eq_false (by omega)
   have e2:(a.size<b.size)=False:=eq_false (by omega)
   by_cases hlt:b.size<a.size
   ·have e3:(b.size<a.size)=True:=eq_true (by omega)
    simp -implicitDefEqProofs only[↓reduceIte,go_sem,Nat.reduceLT,Nat.reduceEqDiff,reduceCtorEq,h0,h1,h5,e1,e3]
    refine ab.ok (dO _ _ _) ?_
    simp -implicitDefEqProofs only[↓reduceIte,go_sem,Nat.reduceLT]
    refine ao.aF ?_
    rw[hd,List.drop_of_length_le (Nat.le_of_eq s2),jr,List.length_drop]
    simp -implicitDefEqProofs only[↓reduceIte,go_sem,Nat.reduceLT,e2,show(0<a.toList.length-b.size)=True from eq_true (by omega)]
   ·have e3:(b.size<a.size)=False:=eq_false (by omega)
    simp -implicitDefEqProofs only[↓reduceIte,go_sem,Nat.reduceLT,Nat.reduceEqDiff,reduceCtorEq,h0,h1,h5,e3]
    refine ab.ok (dO _ _ _) ?_
    simp -implicitDefEqProofs only[↓reduceIte,go_sem,Nat.reduceLT]
    refine ao.aF ?_
    rw[hd,List.drop_of_length_le (Nat.le_of_eq s2),jr,List.length_drop]
    simp -implicitDefEqProofs only[↓reduceIte,go_sem,Nat.reduceLT,e2,show(0<a.toList.length-b.size)=False from eq_false (by omega)]
theorem mf(a b:ak)(ha:a.s.size≤9223372036854775807)(H:aa):ah Tryz.prog 140 [a.av,b.av] H (.ok (iA (aN a b))) H:=by
 unfold aN
 refine ah.aj (hint:=(fun _=>false)) Tryz.func140 (by kernel_rfl) rfl [4] (by kernel_rfl) (by decide) (by simp[Tryz.ntmps140]) ?_
 rw[Tryz.ntmps140]
 simp -implicitDefEqProofs only[↓reduceIte,go_sem,ae,Nat.reduceAdd,Nat.reduceLT,Nat.reduceLeDiff,Nat.reduceEqDiff]
 by_cases h:a.kind=b.kind
 ·refine cx (by simp -implicitDefEqProofs only[go_sem,h]) ?_
  simp -implicitDefEqProofs only[↓reduceIte,go_sem,ae,Nat.reduceAdd,Nat.reduceLT,Nat.reduceLeDiff,Nat.reduceEqDiff]
  by_cases h1:a.kind=1
  ·refine cF (by simp -implicitDefEqProofs only[go_sem,h1]) ?_
   simp -implicitDefEqProofs only[↓reduceIte,go_sem,ae,Nat.reduceAdd,Nat.reduceLT,Nat.reduceLeDiff,Nat.reduceEqDiff]
   refine ab.ok (dO _ _ _) ?_
   simp -implicitDefEqProofs only[↓reduceIte,go_sem,Nat.reduceLT]
   refine ao.ret ?_
   simp -implicitDefEqProofs only[↓reduceIte,go_sem,Nat.reduceLT,h1,←h,eD]
  ·refine cx (by simp -implicitDefEqProofs only[go_sem,h1]) ?_
   simp -implicitDefEqProofs only[↓reduceIte,go_sem,Nat.reduceLT,Nat.reduceEqDiff]
   by_cases h2:a.kind=2
   ·refine cF (by simp -implicitDefEqProofs only[go_sem,h2]) ?_
    simp -implicitDefEqProofs only[↓reduceIte,go_sem,ae,Nat.reduceAdd,Nat.reduceLT,Nat.reduceLeDiff,Nat.reduceEqDiff,kR]
    refine ab.ok (tu _ _ (j9 _) (j9 _) _) ?_
    simp -implicitDefEqProofs only[↓reduceIte,go_sem,Nat.reduceLT]
    refine ao.ret ?_
    simp -implicitDefEqProofs only[↓reduceIte,go_sem,Nat.reduceLT,Int.reduceEq,h2,←h]
   ·refine cx (by simp -implicitDefEqProofs only[go_sem,h2]) ?_
    simp -implicitDefEqProofs only[↓reduceIte,go_sem,Nat.reduceLT,Nat.reduceEqDiff]
    by_cases h3:a.kind=3
    ·refine cF (by simp -implicitDefEqProofs only[go_sem,h3]) ?_
     simp -implicitDefEqProofs only[↓reduceIte,go_sem,ae,Nat.reduceAdd,Nat.reduceLT,Nat.reduceEqDiff]
     refine ab.ok (ry _ _ ha _) ?_
     simp -implicitDefEqProofs only[↓reduceIte,go_sem,Nat.reduceLT]
     refine ao.ret ?_
     simp -implicitDefEqProofs only[↓reduceIte,go_sem,Nat.reduceLT,Int.reduceEq,h3,←h]
    ·refine cx (by simp -implicitDefEqProofs only[go_sem,h3]) ?_
     simp -implicitDefEqProofs only[go_sem]
     refine ao.ret ?_
     simp -implicitDefEqProofs only[↓reduceIte,go_sem,Nat.reduceLT,h1,h2,h3,←h]
 ·refine cF (by simp -implicitDefEqProofs only[go_sem,h]) ?_
  simp -implicitDefEqProofs only[↓reduceIte,go_sem,ae,Nat.reduceAdd,Nat.reduceLT,Nat.reduceLeDiff,Nat.reduceEqDiff]
  refine ab.ok (dO _ _ _) ?_
  simp -implicitDefEqProofs only[↓reduceIte,go_sem,Nat.reduceLT]
  refine ao.ret ?_
  simp -implicitDefEqProofs only[↓reduceIte,go_sem,Nat.reduceLT,h,eD]
def jq(words:List ak)(v:ak):Nat:=words.countP fun w=>decide (aN w v<0)
def cd(words:List ak)(v:ak):Int:=jF (fun w=>decide (aN w v=0)) words
theorem wD(words:List ak)(v:ak):-1≤cd words v∧cd words v<words.length∨words=[]∧cd words v=-1:=by
 unfold cd jF
 split
 ·rename_i h
  obtain⟨x,hx,hp⟩:=List.any_eq_true.1 h
  have:words.findIdx (fun w=>decide (aN w v=0))<words.length:=List.findIdx_lt_length_of_exists ⟨x,hx,hp⟩
  left;omega
 ·cases words with
  |nil=>exact .inr ⟨rfl,rfl⟩
  |cons a l=>left;simp;omega
def ek(words l:List ak):Bool:=l.all fun v=>decide (0≤cd words v)
def uZ(words l:List ak):List Nat:=if ek words l then l.map fun v=>(cd words v).toNat else[]
def uL(words l:List ak):Int:=if ek words l then 0 else 6
def qS(words l:List ak):AV:= .bq [.d (.list false (us (uZ words l))),iA (uL words l)]
theorem y7{words l:List ak}{k:Nat}(hk:k<l.length)(h:cd words l[k]<0):ek words l=false:=by
 rw[Bool.eq_false_iff]
 intro g
 unfold ek at g
 rw[List.all_eq_true]at g
 have:=g _ (List.getElem_mem hk)
 simp at this
 omega
theorem u0{words l:List ak}(h:∀i (hi:i<l.length),0≤cd words l[i]):ek words l=true:=by
 unfold ek
 rw[List.all_eq_true]
 intro v hv
 obtain⟨i,hi,rfl⟩:=List.mem_iff_getElem.1 hv
 simpa using h i hi
def CJ(v:ak):aA:= .box 100 3 0 1 [iA v.kind,iA v.i,sA v.s]
theorem sL(w v:ak)(id:Nat)(H:aa)(hb:H[id]?=some (CJ v)):ah Tryz.prog 255 [w.av,.ptr id 0 0 0] H (.ok (bA (decide (aN w v=0)))) H:=by
 have hlt:id<H.length:=(List.getElem?_eq_some_iff.1 hb).1
 unfold CJ at hb
 refine ah.aj (hint:=(fun _=>false)) Tryz.func255 (by kernel_rfl) rfl [3] (by kernel_rfl) (by decide) (by simp[Tryz.ntmps255]) ?_
 rw[Tryz.ntmps255]
 simp -implicitDefEqProofs only[↓reduceIte,go_sem,ae,Nat.reduceAdd,Nat.reduceLT,Nat.reduceEqDiff,hb,List.getElem?_append_left hlt]
 refine ab.ok (cl w v _) ?_
 simp -implicitDefEqProofs only[↓reduceIte,go_sem,Nat.reduceLT]
 refine ao.ret ?_
 simp -implicitDefEqProofs only[↓reduceIte,go_sem,Nat.reduceLT]
theorem tS(words l:List ak)(n1 n2:Bool)(H:aa)(hw:words.length≤1000000000000)(hl:l.length≤1000000000000):ah Tryz.prog 230 [.d (.list n1 (words.map ak.enc)),.d (.list n2 (l.map ak.enc))] H
  (.ok (if ek words l then .bq [.d (.list false (us (l.map fun v=>(cd words v).toNat))),iA 0]else .bq [.d (.v (.slice none 0 0)),iA 6])) H:=by
 refine ah.aj (hint:=(fun _=>false)) Tryz.func230 (by kernel_rfl) rfl [4,5] (by kernel_rfl) (by decide) (by simp[Tryz.ntmps230]) ?_
 rw[Tryz.ntmps230]
 simp -implicitDefEqProofs only[↓reduceIte,go_sem,Nat.reduceLT,Nat.reduceEqDiff]
 refine bf (fun k s H'=>H'=H++[.arr 40 1 k (us ((l.take k).map fun v=>(cd words v).toNat))]∧(∀i (hi:i<k) (hl:i<l.length),0≤cd words l[i])∧s 0= .d (.list n1 (words.map ak.enc))∧s 6= .sl H.length k 0 k∧s 10= .d (.list n2 (l.map ak.enc))∧s 11=iA l.length∧s 12=iA k) l.length (by omega) (an.fy _ _ 6 40 1 (by decide) (by simp -implicitDefEqProofs only[↓reduceIte,go_sem,Nat.reduceLT,Nat.reduceEqDiff]) _) ?_ ?_ ?_
 ·refine⟨rfl,fun i hi=>by omega,?_⟩
  simp -implicitDefEqProofs only[↓reduceIte,go_sem,Nat.reduceLT,Nat.reduceEqDiff,reduceCtorEq]
 ·rintro k s H' hk hw' ⟨rfl,hp,t0,t6,t10,t11,t12⟩
  have hx:=List.getElem?_eq_getElem hk
  have e1:(l.take (k+1)).map (fun v=>(cd words v).toNat)=(l.take k).map (fun v=>(cd words v).toNat)++[(cd words l[k]).toNat]:=by rw[List.take_succ_eq_append_getElem hk,List.map_append];rfl
  have hbad:=y7 (words:=words) hk
  have hrng:=wD words l[k]
  have hpp:0≤cd words l[k]→∀i (hi:i<k+1) (hl:i<l.length),0≤cd words l[i]:=fun h0 i hi hl'=>by
   rcases Nat.lt_or_ge i k with h|h
   ·exact hp i h hl'
   ·obtain rfl:i=k:=by omega
    exact h0
  have hlen:((l.take k).map fun v=>(cd words v).toNat).length=k:=by simp;omega
  generalize l[k]=x at hx e1 hbad hrng hpp
  generalize (l.take k).map (fun v=>(cd words v).toNat)=L at e1 hlen⊢
  simp -implicitDefEqProofs only[↓reduceIte,go_sem,aw,Nat.reduceAdd,Nat.reduceLT,Nat.reduceEqDiff,reduceCtorEq,t10,t11,t12,hk,hx,ak.enc]
  simp -implicitDefEqProofs only[go_sem,t0]
  refine ab.ok (mr words (fun w=>decide (aN w x=0)) 255 [.ptr (H.length+1) 0 0 0] n1 _ (by omega) fun w _=>sL w x _ _ (by simp[CJ])) ?_
  have hpl:jF (fun w=>decide (aN w x=0)) words=cd words x:=rfl
  rw[hpl]
  generalize hq:cd words x=q at*
  by_cases hq0:q<0
  ·simp -implicitDefEqProofs only[↓reduceIte,go_sem,Nat.reduceLT,hq0]
   refine ao.ret ?_
   rw[hbad hq0]
   simp -implicitDefEqProofs only[↓reduceIte,go_sem,Nat.reduceLT,Nat.reduceEqDiff,Bool.false_eq_true]
  ·obtain⟨n,rfl⟩:∃n:Nat,q=(n:Int):=⟨q.toNat,by omega⟩
   have hnw:n<1000000000000:=by omega
   have hu:IntKind.u64.wrap (n:Int)=(n:Int):=bu _ (by omega) (by omega)
   simp -implicitDefEqProofs only[↓reduceIte,go_sem,Nat.reduceAdd,Nat.reduceLT,Nat.reduceLeDiff,Nat.reduceEqDiff,t6,t12,hq0,hu,lg,hlen,wR]
   refine⟨by omega,by omega,?_⟩
   refine cO.cut [.arr 40 1 (k+1) (us (L++[n]))] [CJ x] 1 rfl rfl (by simp -implicitDefEqProofs only[go_sem]) ?_
   refine⟨by rw[e1];simp,hpp (by omega),?_⟩
   simp -implicitDefEqProofs only[↓reduceIte,go_sem,Nat.reduceLT,Nat.reduceEqDiff,reduceCtorEq,t0,t10,t11,hw',Nat.lt_succ_self]
 ·rintro s H' ⟨rfl,hp,t0,t6,t10,t11,t12⟩
  have hg:=u0 (words:=words) fun i hi=>hp i hi hi
  rw[List.take_length,hg]
  simp -implicitDefEqProofs only[↓reduceIte,go_sem,Nat.reduceLT,Nat.reduceEqDiff,t6,t11,t12]
  refine ao.ret ?_
  simp -implicitDefEqProofs only[↓reduceIte,go_sem,Nat.reduceLT,Nat.reduceEqDiff,cN,lg]
theorem uT(words l:List ak)(n1 n2:Bool)(H:aa)(hw:words.length≤1000000000000)(hl:l.length≤1000000000000):ah Tryz.prog 230 [.d (.list n1 (words.map ak.enc)),.d (.list n2 (l.map ak.enc))] H (.ok (qS words l)) H:=by
 have h:=tS words l n1 n2 H hw hl
 unfold qS uZ uL
 cases hc:ek words l with
 |true=>rw[hc]at h;simpa using h
 |false=>
  rw[hc]at h
  simp only[Bool.false_eq_true,if_false]at h⊢
  exact h.jW (.cons .nil (.cons (.refl _) .nil))
end Go.Proofs.YtggohfhfocgilaaGreat
namespace Go.Proofs.YtggohfhfocgilaaGreat
open Go.Proofs.YtggohfhfocgilaaGreatAw Go.RowKit
namespace SV
def aH(H:aa)(id ag:Nat)(L:List ak):aa:=H.set id (.arr 100 3 ag (L.map ak.enc))
theorem cf{H:aa}{id:Nat}(h:id<H.length)(ag:Nat)(L:List ak):(aH H id ag L)[id]?=some (.arr 100 3 ag (L.map ak.enc)):=by simp[aH,h]
theorem dT(H:aa)(id ag:Nat)(L:List ak)(v:Nat)(es:List (List D)):(aH H id ag L).set id (.arr 100 3 v es)=H.set id (.arr 100 3 v es):=by simp[aH]
theorem dp(H:aa)(id ag:Nat)(L:List ak):H.set id (.arr 100 3 ag (L.map ak.enc))=aH H id ag L:=rfl
theorem aD{L:List ak}{i:Nat}{x:ak}(h:L[i]?=some x):(L.map ak.enc)[i]?=some (ak.enc x):=by simp[h]
theorem b8(L:List ak)(i:Nat)(x:ak):(L.map ak.enc).set i (ak.enc x)=(L.set i x).map ak.enc:=by simp[List.map_set]
theorem get_at{A B:List ak}{x:ak}{n:Nat}(h:A.length=n):(A++x::B)[n]?=some x:=by subst h;simp
theorem cg{A B:List ak}{x y:ak}{n:Nat}(h:A.length=n):(A++x::B).set n y=A++y::B:=by subst h;simp
def mN(P X M Y Q:List ak)(k:Nat):List ak:=P++Y.take k++(X.drop k++M++X.take k++(Y.drop k++Q))
theorem oi(P X M Y Q:List ak):mN P X M Y Q 0=P++X++M++Y++Q:=by simp[mN]
theorem qQ(P X M Y Q:List ak)(n:Nat)(h1:X.length=n)(h2:Y.length=n):mN P X M Y Q n=P++Y++M++X++Q:=by
 unfold mN
 rw[List.take_of_length_le (by omega),List.drop_of_length_le (by omega),List.take_of_length_le (by omega),List.drop_of_length_le (by omega)]
 simp
theorem nw(P X M Y Q:List ak)(k:Nat)(hk:k<X.length)(h:X.length=Y.length):∃x y,(mN P X M Y Q k)[P.length+k]?=some x∧(mN P X M Y Q k)[P.length+X.length+M.length+k]?=some y∧
  ((mN P X M Y Q k).set (P.length+k) y).set (P.length+X.length+M.length+k) x=mN P X M Y Q (k+1):=by
 have hk2:k<Y.length:=by omega
 have e1:X.drop k=X[k]::X.drop (k+1):=List.drop_eq_getElem_cons hk
 have e2:Y.drop k=Y[k]::Y.drop (k+1):=List.drop_eq_getElem_cons hk2
 have e3:X.take (k+1)=X.take k++[X[k]]:=List.take_succ_eq_append_getElem hk
 have e4:Y.take (k+1)=Y.take k++[Y[k]]:=List.take_succ_eq_append_getElem hk2
 have l1:(P++Y.take k).length=P.length+k:=by simp;omega
 have l2:(X.drop (k+1)).length=X.length-(k+1):=by simp
 have l3:(X.take k).length=k:=by simp;omega
 unfold mN
 rw[e1,e2,e3,e4]
 generalize X[k]=x
 generalize Y[k]=y
 generalize X.drop (k+1)=X1 at*
 generalize Y.drop (k+1)=Y1 at*
 generalize X.take k=X0 at*
 generalize Y.take k=Y0 at*
 have a1:P++Y0++(x::X1++M++X0++(y::Y1++Q))=(P++Y0)++x::(X1++M++X0++(y::Y1++Q)):=by simp
 have a2:P++Y0++(x::X1++M++X0++(y::Y1++Q))=(P++Y0++x::X1++M++X0)++y::(Y1++Q):=by simp
 have a3:(P++Y0)++y::(X1++M++X0++(y::Y1++Q))=(P++Y0++y::X1++M++X0)++y::(Y1++Q):=by simp
 refine⟨x,y,?_,?_,?_⟩
 ·rw[a1];exact get_at l1
 ·rw[a2]
  refine get_at ?_
  simp only[List.length_append,List.length_cons,l2,l3]at*
  omega
 ·rw[a1,cg l1,a3,cg (by simp only[List.length_append,List.length_cons,l2,l3]at*;omega)]
  simp
theorem fj(H:aa)(id ag:Nat)(hid:id<H.length)(g:FuncId)(caps:List AV)(P X M Y Q:List ak)(a b n m:Nat)(ha:P.length=a)(hn:X.length=n)(hy:Y.length=n)(hb:P.length+X.length+M.length=b)
  (hm:(P++X++M++Y++Q).length=m) (hbig:m≤1000000000000):
  ah Tryz.prog 270 [.sl id ag 0 m,iA a,iA b,iA n,.fn g caps] (aH H id ag (P++X++M++Y++Q)) (.ok (.bq [])) (aH H id ag (P++Y++M++X++Q)):=by
 have hml:P.length+X.length+M.length+Y.length+Q.length=m:=by rw[←hm];simp;omega
 generalize hE:aH H id ag (P++Y++M++X++Q)=E
 generalize hE0:aH H id ag (P++X++M++Y++Q)=E0
 refine ah.aj (hint:=(fun _=>false)) Tryz.func270 (by kernel_rfl) rfl [] (by kernel_rfl) (by decide) (by simp[Tryz.ntmps270]) ?_
 rw[Tryz.ntmps270]
 simp -implicitDefEqProofs only[go_sem]
 refine aP (fun k s H'=>H'=aH H id ag (mN P X M Y Q k)∧s 0= .sl id ag 0 m∧s 1=iA a∧s 2=iA b∧s 3=iA n∧s 10=iA k) n (by omega) (an.refl _ _) ?_ ?_ ?_
 ·refine⟨by rw[oi,hE0],?_⟩
  simp -implicitDefEqProofs only[↓reduceIte,go_sem,Nat.reduceLT,Nat.reduceEqDiff,reduceCtorEq]
 ·rintro k s H' hk hw ⟨rfl,t0,t1,t2,t3,t10⟩
  obtain⟨x,y,hx,hy2,hst⟩:=nw P X M Y Q k (by omega) (by omega)
  rw[hb]at hy2 hst
  rw[ha]at hx hst
  obtain⟨i,hi⟩:∃i,i=a+k:=⟨_,rfl⟩
  obtain⟨j,hj⟩:∃j,j=b+k:=⟨_,rfl⟩
  have w1:IntKind.i64.wrap ((a:Int)+(k:Int))=(i:Int):=by rw[wrap64_in _ (by omega) (by omega)];omega
  have w2:IntKind.i64.wrap ((b:Int)+(k:Int))=(j:Int):=by rw[wrap64_in _ (by omega) (by omega)];omega
  rw[←hi]at hx hst
  rw[←hj]at hy2 hst
  have hil:i<m:=by omega
  have hjl:j<m:=by omega
  generalize mN P X M Y Q k=L at*
  generalize mN P X M Y Q (k+1)=L' at*
  have gx:=aD hx
  have gy:=aD hy2
  have gh:=cf hid ag L
  have s1:=b8 L i y
  have s2:=b8 (L.set i y) j x
  rw[hst]at s2
  have gy2:((L.set i y).map ak.enc)[j]?=some (ak.enc y):=by
   refine aD ?_
   rw[List.getElem?_set]
   by_cases hij:i=j
   ·omega
   ·rw[if_neg hij];exact hy2
  simp only[ak.enc]at gx gy gy2 s1 s2
  simp -implicitDefEqProofs only[↓reduceIte,go_sem,Nat.reduceLT,Nat.reduceEqDiff,t3,t10,hk]
  refine dE [false,false,false,false,false,false,false,false,false,false,false,false,false,false,false,false,false,false,false,false,true,true,true,true] 20 K.mixed (by kernel_rfl) (by kernel_rfl) (by kernel_rfl) ?_
  simp -implicitDefEqProofs only[↓reduceIte,go_sem,ae,aw,Nat.reduceAdd,Nat.reduceLT,Nat.reduceEqDiff,reduceCtorEq,t0,t1,t2,t10,w1,w2,hil,hjl,gh,gx,gy,dT,s1,s2,gy2,hid,List.getElem?_set_self,List.set_set]
  refine cO.same ⟨by rw[←dp],?_⟩
  simp -implicitDefEqProofs only[↓reduceIte,go_sem,Nat.reduceLT,Nat.reduceEqDiff,reduceCtorEq,t0,t1,t2,t3,hw]
 ·rintro s H' ⟨rfl,t0,t1,t2,t3,t10⟩
  simp -implicitDefEqProofs only[↓reduceIte,go_sem,Nat.reduceLT,Nat.reduceEqDiff,t3,t10]
  rw[qQ _ _ _ _ _ n hn hy,hE]
  exact⟨_,an.refl _ _,rfl⟩
theorem cQ(H:aa)(id ag:Nat)(hid:id<H.length)(g:FuncId)(caps:List AV)(P X M Y Q L L':List ak)(a b n m:Nat)(hL:L=P++X++M++Y++Q)(hL':L'=P++Y++M++X++Q)(ha:P.length=a)(hn:X.length=n)(hy:Y.length=n)(hb:P.length+X.length+M.length=b)
  (hm:L.length=m) (hbig:m≤1000000000000):
  ah Tryz.prog 270 [.sl id ag 0 m,iA a,iA b,iA n,.fn g caps] (aH H id ag L) (.ok (.bq [])) (aH H id ag L'):=by
 subst hL hL'
 exact fj H id ag hid g caps P X M Y Q a b n m ha hn hy hb hm hbig
end SV
end Go.Proofs.YtggohfhfocgilaaGreat
namespace Go.Proofs.YtggohfhfocgilaaGreat
open Go.Proofs.YtggohfhfocgilaaGreatAw Go.RowKit
namespace SV
structure D7 where
 L:List ak
 P:List ak
 U:List ak
 V:List ak
 Q:List ak
theorem ja(H:aa)(id ag:Nat)(hid:id<H.length)(g:FuncId)(caps:List AV)(P U V Q L T:List ak)(hL:L=P++U++V++Q)(hT:T=P++V++U++Q)(a m b n:Nat)(ha:P.length=a)(hm:P.length+U.length=m)(hb:P.length+U.length+V.length=b)(hU:0<U.length)(hV:0<V.length)
  (hn:L.length=n) (hbig:n≤1000000000000):
  ah Tryz.prog 269 [.sl id ag 0 n,iA a,iA m,iA b,.fn g caps] (aH H id ag L) (.ok (.bq [])) (aH H id ag T):=by
 have hnl:P.length+U.length+V.length+Q.length=n:=by rw[←hn,hL];simp;omega
 generalize hE0:aH H id ag L=E0
 have w1:IntKind.i64.wrap ((m:Int)-(a:Int))=((U.length:Nat):Int):=by rw[wrap64_in _ (by omega) (by omega)];omega
 have w2:IntKind.i64.wrap ((b:Int)-(m:Int))=((V.length:Nat):Int):=by rw[wrap64_in _ (by omega) (by omega)];omega
 refine ah.aj (hint:=(fun _=>false)) Tryz.func269 (by kernel_rfl) rfl [] (by kernel_rfl) (by decide) (by simp[Tryz.ntmps269]) ?_
 rw[Tryz.ntmps269]
 simp -implicitDefEqProofs only[↓reduceIte,go_sem,Nat.reduceLT,Nat.reduceEqDiff,w1,w2]
 refine br _ _ _ _ (fun(x:D7) s H'=>H'=aH H id ag x.L∧x.L=x.P++x.U++x.V++x.Q∧T=x.P++x.V++x.U++x.Q∧x.P.length+x.U.length=m∧0<x.U.length∧0<x.V.length∧x.L.length=n∧
   s 0= .sl id ag 0 n∧s 2=iA m∧s 4= .fn g caps∧s 10=iA x.U.length∧s 11=iA x.V.length) (fun x=>x.U.length+x.V.length) ⟨L,P,U,V,Q⟩ (an.refl _ _) ?_ ?_
 ·refine⟨hE0.symm,hL,hT,hm,hU,hV,hn,?_⟩
  simp -implicitDefEqProofs only[↓reduceIte,go_sem,Nat.reduceLT,Nat.reduceEqDiff,reduceCtorEq]
 ·rintro⟨L',P',U',V',Q'⟩ s H' ⟨rfl,hL',hT',hm',hU',hV',hn',t0,t2,t4,t10,t11⟩
  simp only at hL' hT' hm' hU' hV' hn' t0 t2 t4 t10 t11
  have hnl':P'.length+U'.length+V'.length+Q'.length=n:=by rw[←hn',hL'];simp;omega
  have w3:IntKind.i64.wrap ((m:Int)-(U'.length:Int))=((P'.length:Nat):Int):=by rw[wrap64_in _ (by omega) (by omega)];omega
  by_cases hij:U'.length=V'.length
  ·have hij':(((U'.length:Nat):Int) !=((V'.length:Nat):Int))=false:=by simp[hij]
   simp -implicitDefEqProofs only[↓reduceIte,go_sem,Nat.reduceLT,Nat.reduceEqDiff,reduceCtorEq,t10,t11,hij']
   simp -implicitDefEqProofs only[↓reduceIte,go_sem,Nat.reduceLT,Nat.reduceEqDiff,t0,t2,t4,t10,w3]
   refine ab.ok (cQ H id ag hid g caps P' U' [] V' Q' L' T P'.length m U'.length n (by rw[hL'];simp) (by rw[hT'];simp) rfl rfl (by omega) (by simp;omega) hn' hbig) ?_
   simp -implicitDefEqProofs only[go_sem]
   exact⟨_,an.refl _ _,rfl⟩
  ·have hij':(((U'.length:Nat):Int) !=((V'.length:Nat):Int))=true:=by simp;omega
   by_cases hgt:V'.length<U'.length
   ·have hgt':(((V'.length:Nat):Int)<((U'.length:Nat):Int))=True:=eq_true (by omega)
    have e1:U'.take V'.length++U'.drop V'.length=U':=List.take_append_drop _ _
    have l1:(U'.take V'.length).length=V'.length:=by simp;omega
    have l2:(U'.drop V'.length).length=U'.length-V'.length:=by simp
    generalize U'.take V'.length=X at*
    generalize U'.drop V'.length=Y at*
    have e2:=congrArg List.length e1
    simp only[List.length_append]at e2
    have w4:IntKind.i64.wrap (U'.length-(V'.length:Int))=((Y.length:Nat):Int):=by rw[wrap64_in _ (by omega) (by omega)];omega
    obtain⟨L2,hL2⟩:∃L2,L2=P'++V'++Y++X++Q':=⟨_,rfl⟩
    have hl2:L2.length=n:=by rw[hL2];simp only[List.length_append]at*;omega
    simp -implicitDefEqProofs only[↓reduceIte,go_sem,Nat.reduceLT,Nat.reduceEqDiff,reduceCtorEq,t10,t11,hij',hgt']
    simp -implicitDefEqProofs only[↓reduceIte,go_sem,Nat.reduceLT,Nat.reduceEqDiff,t0,t2,t4,t11,w3]
    refine ab.ok (cQ H id ag hid g caps P' X Y V' Q' L' L2 P'.length m V'.length n (by rw[hL',←e1];simp) hL2 rfl l1 rfl (by omega) hn' hbig) ?_
    simp -implicitDefEqProofs only[↓reduceIte,go_sem,Nat.reduceLT,Nat.reduceEqDiff,t10,t11,w4]
    refine⟨_,_,⟨L2,P'++V',Y,X,Q'⟩,an.refl _ _,⟨rfl,by rw[hL2];simp,by rw[hT',←e1];simp,?_,?_,?_,hl2,?_⟩,?_⟩
    ·simp only[List.length_append];omega
    ·simp only;omega
    ·simp only;omega
    ·simp -implicitDefEqProofs only[↓reduceIte,go_sem,Nat.reduceLT,Nat.reduceEqDiff,reduceCtorEq,t0,t2,t4,t11,l1]
    ·simp only;omega
   ·have hgt':(((V'.length:Nat):Int)<((U'.length:Nat):Int))=False:=eq_false (by omega)
    have e1:V'.take (V'.length-U'.length)++V'.drop (V'.length-U'.length)=V':=List.take_append_drop _ _
    have l1:(V'.take (V'.length-U'.length)).length=V'.length-U'.length:=by simp
    have l2:(V'.drop (V'.length-U'.length)).length=U'.length:=by simp;omega
    generalize V'.take (V'.length-U'.length)=Y at*
    generalize V'.drop (V'.length-U'.length)=Z at*
    have e2:=congrArg List.length e1
    simp only[List.length_append]at e2
    have w4:IntKind.i64.wrap (V'.length-(U'.length:Int))=((Y.length:Nat):Int):=by rw[wrap64_in _ (by omega) (by omega)];omega
    have w5:IntKind.i64.wrap ((m:Int)+(V'.length:Int))=(m:Int)+(V'.length:Int):=by rw[wrap64_in _ (by omega) (by omega)]
    have w6:IntKind.i64.wrap ((m:Int)+(V'.length:Int)-(U'.length:Int))=((m+Y.length:Nat):Int):=by rw[wrap64_in _ (by omega) (by omega)];omega
    obtain⟨L2,hL2⟩:∃L2,L2=P'++Z++Y++U'++Q':=⟨_,rfl⟩
    have hl2':L2.length=n:=by rw[hL2];simp only[List.length_append]at*;omega
    simp -implicitDefEqProofs only[↓reduceIte,go_sem,Nat.reduceLT,Nat.reduceEqDiff,reduceCtorEq,t10,t11,hij',hgt']
    simp -implicitDefEqProofs only[↓reduceIte,go_sem,Nat.reduceLT,Nat.reduceEqDiff,t0,t2,t4,t10,t11,w3,w5,w6]
    refine ab.ok (cQ H id ag hid g caps P' U' Y Z Q' L' L2 P'.length (m+Y.length) U'.length n (by rw[hL',←e1];simp) hL2 rfl rfl l2 (by omega) hn' hbig) ?_
    simp -implicitDefEqProofs only[↓reduceIte,go_sem,Nat.reduceLT,Nat.reduceEqDiff,t10,t11,w4]
    refine⟨_,_,⟨L2,P',Z,Y,U'++Q'⟩,an.refl _ _,⟨rfl,by rw[hL2];simp,by rw[hT',←e1];simp,?_,?_,?_,hl2',?_⟩,?_⟩
    ·simp only;omega
    ·simp only;omega
    ·simp only;omega
    ·simp -implicitDefEqProofs only[↓reduceIte,go_sem,Nat.reduceLT,Nat.reduceEqDiff,reduceCtorEq,t0,t2,t4,t10,l2]
    ·simp only;omega
end SV
end Go.Proofs.YtggohfhfocgilaaGreat
namespace Go.Proofs.YtggohfhfocgilaaGreat
open Go.Proofs.YtggohfhfocgilaaGreatAw Go.RowKit
namespace SV
def aW(c:ak→ak→Int)(x y:ak):Bool:=decide (c x y<0)
def dJ(g:FuncId)(caps:List AV)(c:ak→ak→Int)(H:aa)(id:Nat):Prop:=∀(o:aA) (x y:ak),ah Tryz.prog g ([.agg ((ak.enc x).map .d),.agg ((ak.enc y).map .d)]++caps) (H.set id o) (.ok (iA (c x y))) (H.set id o)
theorem dJ.at{g:FuncId}{caps:List AV}{c:ak→ak→Int}{H:aa}{id:Nat}(h:dJ g caps c H id)(ag:Nat)(L:List ak)(x y:ak):ah Tryz.prog g ([.agg ((ak.enc x).map .d),.agg ((ak.enc y).map .d)]++caps) (aH H id ag L) (.ok (iA (c x y))) (aH H id ag L):=h _ x y
structure Eg where
 L:List ak
 A:List ak
 B:List ak
theorem dS(H:aa)(id ag:Nat)(hid:id<H.length)(g:FuncId)(caps:List AV)(c:ak→ak→Int)(ho:St.Ord (aW c))(hc:dJ g caps c H id)(P X Q L L':List ak)(hL:L=P++X++Q)(hL':L'=P++St.aG (aW c) X++Q)(a b n:Nat)(ha:P.length=a)(hb:P.length+X.length=b)
  (hn:L.length=n) (hbig:n≤1000000000000):
  ah Tryz.prog 267 [.sl id ag 0 n,iA a,iA b,.fn g caps] (aH H id ag L) (.ok (.bq [])) (aH H id ag L'):=by
 have hnl:P.length+X.length+Q.length=n:=by rw[←hn,hL];simp;omega
 generalize hE0:aH H id ag L=E0
 have w1:IntKind.i64.wrap ((a:Int)+1)=(a:Int)+1:=wrap64_in _ (by omega) (by omega)
 refine ah.aj (hint:=(fun _=>false)) Tryz.func267 (by kernel_rfl) rfl [] (by kernel_rfl) (by decide) (by simp[Tryz.ntmps267]) ?_
 rw[Tryz.ntmps267]
 simp -implicitDefEqProofs only[↓reduceIte,go_sem,Nat.reduceLT,w1]
 refine aP (fun k s H'=>(∃Lk,H'=aH H id ag Lk∧Lk=P++(St.aG (aW c) (X.take (k+1))++(X.drop (k+1)++Q)))∧s 0= .sl id ag 0 n∧s 1=iA a∧s 2=iA b∧s 3= .fn g caps∧s 8=iA ((a:Int)+1+(k:Int))) (X.length-1) (by omega) (an.refl _ _) ?_ ?_ ?_
 ·refine⟨⟨L,hE0.symm,?_⟩,?_⟩
  ·have:St.aG (aW c) (X.take 1)=X.take 1:=by cases X<;>rfl
   rw[hL,this,←List.append_assoc (X.take 1),List.take_append_drop,List.append_assoc]
  ·simp -implicitDefEqProofs only[↓reduceIte,go_sem,Nat.reduceLT,Nat.reduceEqDiff,reduceCtorEq,Int.add_zero]
 ·rintro k s H' hk hw ⟨⟨Lk,rfl,hLk⟩,t0,t1,t2,t3,t8⟩
  have hkx:k+1<X.length:=by omega
  have e1:X.drop (k+1)=X[k+1]::X.drop (k+1+1):=List.drop_eq_getElem_cons hkx
  have e2:X.take (k+1+1)=X.take (k+1)++[X[k+1]]:=List.take_succ_eq_append_getElem hkx
  have hSl:=St.aX (lt:=aW c) (X.take (k+1))
  have hXl:(X.take (k+1)).length=k+1:=by simp;omega
  have hRl:(X.drop (k+1+1)).length=X.length-(k+2):=by simp
  rw[e1]at hLk
  rw[e2]
  have hlt:((a:Int)+1+(k:Int)<(b:Int))=True:=eq_true (by omega)
  have hss:=St.cc ho (X.take (k+1))
  generalize X[k+1]=x at*
  generalize X.drop (k+1+1)=R0 at*
  generalize X.take (k+1)=X0 at*
  generalize hS:St.aG (aW c) X0=S at*
  simp -implicitDefEqProofs only[↓reduceIte,go_sem,Nat.reduceLT,Nat.reduceEqDiff,t2,t8,hlt]
  refine br _ _ _ _ (fun(z:Eg) s H'=>H'=aH H id ag z.L∧z.L=P++z.A++x::(z.B++(R0++Q))∧z.A++z.B=S∧(∀y∈z.B,aW c x y=true)∧s 0= .sl id ag 0 n∧s 1=iA a∧s 2=iA b∧s 3= .fn g caps∧s 8=iA ((a:Int)+1+(k:Int))∧s 9=iA ((a+z.A.length:Nat):Int)) (fun z=>z.A.length) ⟨Lk,S,[]⟩ (an.refl _ _) ?_ ?_
  ·refine⟨rfl,by rw[hLk];simp,by simp,by simp,?_⟩
   simp -implicitDefEqProofs only[↓reduceIte,go_sem,Nat.reduceLT,Nat.reduceEqDiff,reduceCtorEq,t0,t1,t2,t3,t8,show((a:Int)+1+(k:Int))=((a+S.length:Nat):Int) by omega]
  ·rintro⟨L1,A,B⟩ s H' ⟨rfl,hL1,hAB,hB,t0,t1,t2,t3,t8,t9⟩
   simp only at hL1 hAB hB t0 t1 t2 t3 t8 t9
   have hABl:A.length+B.length=k+1:=by rw[←List.length_append,hAB,hSl,hXl]
   have hL1n:L1.length=n:=by rw[hL1];simp;omega
   have fin:(∀y∈A,aW c x y=false)→L1=P++(St.aG (aW c) (X0++[x])++(R0++Q)):=fun hA=>by
    rw[hL1,←St.insert_eq ho (hAB.trans hS.symm) hB hA];simp
   obtain⟨j,hj⟩:∃j,j=a+A.length:=⟨_,rfl⟩
   rw[←hj]at t9
   have hw8:IntKind.i64.wrap ((a:Int)+1+(k:Int)+1)=(a:Int)+1+((k:Int)+1):=by rw[wrap64_in _ (by omega) (by omega)];omega
   rcases List.eq_nil_or_concat A with rfl|⟨A',z,rfl⟩
   ·have hja:((a:Int)<(j:Int))=False:=eq_false (by simp at hj;omega)
    simp -implicitDefEqProofs only[go_sem]
    refine aR K.mixed (by kernel_rfl) ?_
    simp -implicitDefEqProofs only[↓reduceIte,go_sem,Nat.reduceLT,Nat.reduceEqDiff,reduceCtorEq,t1,t9,hja,t8,hw8]
    refine cO.same ⟨⟨L1,rfl,fin (by simp)⟩,?_⟩
    simp -implicitDefEqProofs only[↓reduceIte,go_sem,Nat.reduceLT,Nat.reduceEqDiff,reduceCtorEq,t0,t1,t2,t3]
   ·simp only[List.concat_eq_append,List.length_append,List.length_singleton]at hL1 hAB hj hABl fin
    have hja:((a:Int)<(j:Int))=True:=eq_true (by omega)
    obtain⟨i,hi⟩:∃i,i=a+A'.length:=⟨_,rfl⟩
    have hw9:IntKind.i64.wrap ((j:Int)-1)=(i:Int):=by rw[wrap64_in _ (by omega) (by omega)];omega
    have hL1':L1=(P++A')++z::(x::(B++(R0++Q))):=by rw[hL1];simp
    have hL1'':L1=(P++A'++[z])++x::(B++(R0++Q)):=by rw[hL1];simp
    have gz:L1[i]?=some z:=by rw[hL1'];exact get_at (by simp;omega)
    have gx:L1[j]?=some x:=by rw[hL1''];exact get_at (by simp;omega)
    have il:i<n:=by omega
    have jl:j<n:=by omega
    have st:(L1.set j z).set i x=P++A'++x::(z::B++(R0++Q)):=by
     rw[hL1'',cg (by simp;omega)]
     have:P++A'++[z]++z::(B++(R0++Q))=(P++A')++z::(z::(B++(R0++Q))):=by simp
     rw[this,cg (by simp;omega)]
     simp
    have gz':=aD gz
    have gx':=aD gx
    have gz2:((L1.set j z).map ak.enc)[i]?=some (ak.enc z):=by
     refine aD ?_
     rw[List.getElem?_set,if_neg (by omega)];exact gz
    have s1:=b8 L1 j z
    have s2:=b8 (L1.set j z) i x
    rw[st]at s2
    have gh:=cf hid ag L1
    have hd:=hc.at ag L1 x z
    simp only[ak.enc]at gz' gx' gz2 s1 s2
    try simp only[ak.enc,List.map_cons,List.map_nil]at hd
    simp -implicitDefEqProofs only[go_sem]
    refine aR K.mixed (by kernel_rfl) ?_
    simp -implicitDefEqProofs only[↓reduceIte,go_sem,ae,Nat.reduceAdd,Nat.reduceLT,Nat.reduceEqDiff,reduceCtorEq,t0,t1,t3,t9,hja,hw9,il,jl,gh,gz',gx']
    refine ab.ok hd ?_
    by_cases hlt2:c x z<0
    ·have hltb:aW c x z=true:=by simp[aW,hlt2]
     simp -implicitDefEqProofs only[↓reduceIte,go_sem,Nat.reduceLT,Nat.reduceEqDiff,hlt2]
     refine dE [false,false,false,false,false,false,false,false,false,false,false,false,false,false,true,true,true,true] 14 K.mixed (by kernel_rfl) (by kernel_rfl) (by kernel_rfl) ?_
     simp -implicitDefEqProofs only[↓reduceIte,go_sem,ae,aw,Nat.reduceAdd,Nat.reduceLT,Nat.reduceEqDiff,reduceCtorEq,t0,t9,hw9,il,jl,gh,gz',gx',dT,s1,gz2,s2,hid,List.getElem?_set_self,List.set_set]
     refine⟨_,_,⟨_,A',z::B⟩,an.refl _ _,⟨by rw[←dp],rfl,by rw[←hAB];simp,?_,?_⟩,by simp⟩
     ·intro y hy
      rcases List.mem_cons.1 hy with rfl|hy
      ·exact hltb
      ·exact hB y hy
     ·simp -implicitDefEqProofs only[↓reduceIte,go_sem,Nat.reduceLT,Nat.reduceEqDiff,reduceCtorEq,t0,t1,t2,t3,t8,show((a:Int)+(A'.length:Int))=(i:Int) by omega]
    ·have hltb:aW c x z=false:=by simp[aW,hlt2]
     have hAx:∀y∈A'++[z],aW c x y=false:=by
      intro y hy
      have hso:=hss
      rw[←hAB]at hso
      rcases List.mem_append.1 hy with hy|hy
      ·exact ho.le_trans (hso.left.sf y hy z (by simp)) hltb
      ·simp at hy;rw[hy];exact hltb
     simp -implicitDefEqProofs only[↓reduceIte,go_sem,Nat.reduceLT,Nat.reduceEqDiff,hlt2,t8,hw8]
     refine cO.same ⟨⟨L1,rfl,fin hAx⟩,?_⟩
     simp -implicitDefEqProofs only[↓reduceIte,go_sem,Nat.reduceLT,Nat.reduceEqDiff,reduceCtorEq,t0,t1,t2,t3]
 ·rintro s H' ⟨⟨Lk,rfl,hLk⟩,t0,t1,t2,t3,t8⟩
  have hlt:((a:Int)+1+((X.length-1:Nat):Int)<(b:Int))=False:=eq_false (by omega)
  simp -implicitDefEqProofs only[↓reduceIte,go_sem,Nat.reduceLT,Nat.reduceEqDiff,t2,t8,hlt]
  have:Lk=L':=by
   rw[hLk,hL',List.take_of_length_le (by omega),List.drop_of_length_le (by omega)];simp
  rw[this]
  exact⟨_,an.refl _ _,rfl⟩
end SV
end Go.Proofs.YtggohfhfocgilaaGreat
namespace Go.Proofs.YtggohfhfocgilaaGreat
open Go.Proofs.YtggohfhfocgilaaGreatAw Go.RowKit
namespace SV
theorem eR(n:Nat)(h:n≤2000000000000):IntKind.i64.wrap (j5 .u64 (IntKind.u64.wrap (n:Int)) 1)=((n/2:Nat):Int):=by
 rw[cM n (by omega)]
 have:=sG n 1 (by decide)
 rw[show((1:Nat):Int)=1 from rfl]at this
 rw[this]
 exact zE _ (by omega)
theorem gu{L P R:List ak}{x y:ak}(h:L=P++x::y::R){i:Nat}(hi:P.length=i):L[i]?=some x∧L[i+1]?=some y∧(L.set i y)[i+1]?=some y∧(L.set (i+1) x)[i]?=some x∧(L.set i y).set (i+1) x=P++y::x::R∧(L.set (i+1) x).set i y=P++y::x::R:=by
 subst h hi
 have e:P++x::y::R=(P++[x])++y::R:=by simp
 have e2:∀z:ak,P++z::y::R=(P++[z])++y::R:=by simp
 have h1:∀z:ak,(P++[z]).length=P.length+1:=by simp
 refine⟨get_at rfl,by rw[e];exact get_at (h1 x),?_,?_,?_,?_⟩
 ·rw[cg rfl,e2];exact get_at (h1 y)
 ·rw[e,cg (h1 x)]
  have:P++[x]++x::R=P++x::(x::R):=by simp
  rw[this];exact get_at rfl
 ·rw[cg rfl,e2,cg (h1 y)];simp
 ·rw[e,cg (h1 x)]
  have:P++[x]++x::R=P++x::(x::R):=by simp
  rw[this,cg rfl]
theorem uW{P X Y Q L:List ak}{a:Nat}(hL:L=P++X++Y++Q)(ha:P.length=a):∀i x,X[i]?=some x→L[a+i]?=some x:=fun i x hx=>by
 have:=(List.getElem?_eq_some_iff.1 hx).1
 rw[hL,List.append_assoc,List.append_assoc,←ha,List.getElem?_append_right (by omega),List.getElem?_append_left (by omega),Nat.add_sub_cancel_left]
 exact hx
theorem vI{P X Y Q L:List ak}{m:Nat}(hL:L=P++X++Y++Q)(hm:P.length+X.length=m):∀i y,Y[i]?=some y→L[m+i]?=some y:=fun i y hy=>by
 have:=(List.getElem?_eq_some_iff.1 hy).1
 rw[hL,List.append_assoc (P++X),←hm,List.getElem?_append_right (by simp),List.getElem?_append_left (by simp;omega)]
 simpa[Nat.add_sub_cancel_left]using hy
theorem l7(H:aa)(id ag:Nat)(hid:id<H.length)(g:FuncId)(caps:List AV)(c:ak→ak→Int)(ho:St.Ord (aW c))(hc:dJ g caps c H id)(n:Nat)(hbig:n≤1000000000000)(P X Y Q L L':List ak)(a m b:Nat)
  (hL:L=P++X++Y++Q) (hL':L'=P++St.aG (aW c) (X++Y)++Q) (ha:P.length=a) (hm:P.length+X.length=m) (hb:P.length+X.length+Y.length=b) (hX0:0<X.length) (hY0:0<Y.length) (hX:St.au (aW c) X) (hY:St.au (aW c) Y) (hn:L.length=n) (h1:X.length=1):
  ah Tryz.prog 268 [.sl id ag 0 n,iA a,iA m,iA b,.fn g caps] (aH H id ag L) (.ok (.bq [])) (aH H id ag L'):=by
 have hnl:P.length+X.length+Y.length+Q.length=n:=by rw[←hn,hL];simp;omega
 have w1:IntKind.i64.wrap ((m:Int)-(a:Int))=((X.length:Nat):Int):=by rw[wrap64_in _ (by omega) (by omega)];omega
 have w2:IntKind.i64.wrap ((b:Int)-(m:Int))=((Y.length:Nat):Int):=by rw[wrap64_in _ (by omega) (by omega)];omega
 have hLX:=uW hL ha
 have hLY:=vI hL hm
 generalize hE0:aH H id ag L=E0
 have gh:=cf hid ag L
 rw[hE0]at gh
 have hcE:∀x y:ak,ah Tryz.prog g ([.agg ((ak.enc x).map .d),.agg ((ak.enc y).map .d)]++caps) E0 (.ok (iA (c x y))) E0:=fun x y=>by rw[←hE0];exact hc.at ag L x y
 refine ah.aj (hint:=(fun _=>false)) Tryz.func268 (by kernel_rfl) rfl [] (by kernel_rfl) (by decide) (by simp[Tryz.ntmps268]) ?_
 rw[Tryz.ntmps268]
 obtain⟨x,rfl⟩:∃x,X=[x]:=List.length_eq_one_iff.1 h1
 simp -implicitDefEqProofs only[↓reduceIte,go_sem,Nat.reduceLT,Nat.reduceEqDiff,w1,h1]
 refine br _ _ _ _ (fun(z:Nat×Nat) s H'=>H'=E0∧z.1≤z.2∧z.2≤Y.length∧(z.1=0∨∃y,Y[z.1-1]?=some y∧aW c y x=true)∧(z.2=Y.length∨∃y,Y[z.2]?=some y∧aW c y x=false)∧
  s 0= .sl id ag 0 n∧s 1=iA a∧s 4= .fn g caps∧s 10=iA ((m+z.1:Nat):Int)∧s 11=iA ((m+z.2:Nat):Int)) (fun z=>z.2-z.1) (0,Y.length) (an.refl _ _) ?_ ?_
 ·refine⟨rfl,Nat.zero_le _,Nat.le_refl _,.inl rfl,.inl rfl,?_⟩
  simp -implicitDefEqProofs only[↓reduceIte,go_sem,Nat.reduceLT,Nat.reduceEqDiff,reduceCtorEq,show m+Y.length=b by omega,Nat.add_zero]
 ·rintro⟨i,j⟩ s H' ⟨rfl,hij,hj,hlo,hhi,t0,t1,t4,t10,t11⟩
  simp only at hij hj hlo hhi t10 t11
  obtain⟨i',hi'⟩:∃i',i'=m+i:=⟨_,rfl⟩
  obtain⟨j',hj'⟩:∃j',j'=m+j:=⟨_,rfl⟩
  rw[←hi']at t10
  rw[←hj']at t11
  have f1:((m:Int)+(i:Int))=(i':Int):=by omega
  have f2:((m:Int)+(j:Int))=(j':Int):=by omega
  by_cases hlt:i<j
  ·obtain⟨q,hq⟩:∃q,q=i'+j':=⟨_,rfl⟩
   have w3:IntKind.i64.wrap ((i':Int)+(j':Int))=(q:Int):=by rw[wrap64_in _ (by omega) (by omega)];omega
   have w4:=eR q (by omega)
   obtain⟨h,hh⟩:∃h,h=q/2:=⟨_,rfl⟩
   rw[←hh]at w4
   obtain⟨y,hy⟩:∃y,Y[h-m]?=some y:=⟨_,List.getElem?_eq_getElem (show h-m<Y.length by omega)⟩
   have gy:=aD (hLY _ _ hy)
   rw[show m+(h-m)=h by omega]at gy
   have gx:=aD (hLX 0 x rfl)
   rw[Nat.add_zero]at gx
   have hd:=hcE y x
   simp only[ak.enc]at gx gy
   try simp only[ak.enc,List.map_cons,List.map_nil]at hd
   have hln:h<n:=by omega
   have han:a<n:=by omega
   simp -implicitDefEqProofs only[↓reduceIte,go_sem,Nat.reduceLT,Nat.reduceEqDiff,Int.reduceLE,t10,t11,show((i':Int)<(j':Int))=True from eq_true (by omega),w3,w4]
   refine aR K.mixed (by kernel_rfl) ?_
   simp -implicitDefEqProofs only[↓reduceIte,go_sem,ae,Nat.reduceAdd,Nat.reduceLT,Nat.reduceEqDiff,reduceCtorEq,t0,t1,t4,gh,gx,gy,hln,han]
   refine ab.ok hd ?_
   by_cases hcc:c y x<0
   ·have hw5:IntKind.i64.wrap ((h:Int)+1)=((m+(h-m+1):Nat):Int):=by rw[wrap64_in _ (by omega) (by omega)];omega
    obtain⟨h2,hh2⟩:∃h2,h2=m+(h-m+1):=⟨_,rfl⟩
    rw[←hh2]at hw5
    simp -implicitDefEqProofs only[↓reduceIte,go_sem,Nat.reduceLT,Nat.reduceEqDiff,hcc,hw5]
    refine⟨_,_,(h-m+1,j),an.refl _ _,⟨rfl,by simp only;omega,hj,.inr ⟨y,by simpa using hy,by simp[aW,hcc]⟩,hhi,?_⟩,by simp only;omega⟩
    simp -implicitDefEqProofs only[↓reduceIte,go_sem,Nat.reduceLT,Nat.reduceEqDiff,reduceCtorEq,t0,t1,t4,t11,show((m:Int)+(((h-m:Nat):Int)+1))=(h2:Int) by omega,f2]
   ·simp -implicitDefEqProofs only[↓reduceIte,go_sem,Nat.reduceLT,Nat.reduceEqDiff,hcc]
    refine⟨_,_,(i,h-m),an.refl _ _,⟨rfl,by simp only;omega,by simp only;omega,hlo,.inr ⟨y,hy,by simp[aW,hcc]⟩,?_⟩,by simp only;omega⟩
    simp -implicitDefEqProofs only[↓reduceIte,go_sem,Nat.reduceLT,Nat.reduceEqDiff,reduceCtorEq,t0,t1,t4,t10,show((m:Int)+((h-m:Nat):Int))=(h:Int) by omega,f1]
  ·obtain rfl:j=i:=by omega
   have hmg:=St.p0 ho hY hj hlo hhi
   have hw6:IntKind.i64.wrap ((i':Int)-1)=(i':Int)-1:=wrap64_in _ (by omega) (by omega)
   simp -implicitDefEqProofs only[↓reduceIte,go_sem,Nat.reduceLT,Nat.reduceEqDiff,t10,t11,show((i':Int)<(j':Int))=False from eq_false (by omega),t1]
   refine aP (fun k s H'=>(∃Lk,H'=aH H id ag Lk∧Lk=P++Y.take k++x::(Y.drop k++Q))∧s 0= .sl id ag 0 n∧s 10=iA i'∧s 13=iA ((a:Int)+(k:Int))) j (by omega) (an.refl _ _) ?_ ?_ ?_
   ·refine⟨⟨L,hE0.symm,by rw[hL];simp⟩,?_⟩
    simp -implicitDefEqProofs only[↓reduceIte,go_sem,Nat.reduceLT,Nat.reduceEqDiff,reduceCtorEq,t0,t10,Int.add_zero]
   ·rintro k s H' hk hw ⟨⟨Lk,rfl,hLk⟩,t0,t10,t13⟩
    have hkY:k<Y.length:=by omega
    have e1:Y.drop k=Y[k]::Y.drop (k+1):=List.drop_eq_getElem_cons hkY
    have e2:Y.take (k+1)=Y.take k++[Y[k]]:=List.take_succ_eq_append_getElem hkY
    rw[e1]at hLk
    rw[e2]
    have l1:(P++Y.take k).length=a+k:=by simp;omega
    generalize Y[k]=y at*
    generalize Y.drop (k+1)=Y1 at*
    generalize Y.take k=Y0 at*
    obtain⟨u,hu⟩:∃u,u=a+k:=⟨_,rfl⟩
    obtain⟨v,hv⟩:∃v,v=u+1:=⟨_,rfl⟩
    rw[←hu]at l1
    obtain⟨g1,g2,g3,_,g5,_⟩:=gu (L:=Lk) (P:=P++Y0) (x:=x) (y:=y) (R:=Y1++Q) (by rw[hLk];simp) l1
    rw[←hv]at g2 g3 g5
    have f3:((a:Int)+(k:Int))=(u:Int):=by omega
    have hw7:IntKind.i64.wrap ((u:Int)+1)=(v:Int):=by rw[wrap64_in _ (by omega) (by omega)];omega
    rw[f3]at t13
    have gg:=cf hid ag Lk
    have q1:=aD g1
    have q2:=aD g2
    have q3:=aD g3
    have s1:=b8 Lk u y
    have s2:=b8 (Lk.set u y) v x
    rw[g5]at s2
    have hun:u<n:=by omega
    have hvn:v<n:=by omega
    simp only[ak.enc]at q1 q2 q3 s1 s2
    simp -implicitDefEqProofs only[↓reduceIte,go_sem,Nat.reduceLT,Nat.reduceEqDiff,t10,t13,hw6,show((u:Int)<(i':Int)-1)=True from eq_true (by omega)]
    refine dE [false,false,false,false,false,false,false,false,false,false,false,false,false,false,true,true,true,true] 14 K.mixed (by kernel_rfl) (by kernel_rfl) (by kernel_rfl) ?_
    simp -implicitDefEqProofs only[↓reduceIte,go_sem,ae,aw,Nat.reduceAdd,Nat.reduceLT,Nat.reduceEqDiff,reduceCtorEq,t0,t13,hw7,hun,hvn,gg,q1,q2,q3,s1,s2,dT,hid,List.getElem?_set_self,List.set_set]
    refine cO.same ⟨⟨_,by rw[←dp],by simp⟩,?_⟩
    simp -implicitDefEqProofs only[↓reduceIte,go_sem,Nat.reduceLT,Nat.reduceEqDiff,reduceCtorEq,t0,t10,show((a:Int)+((k:Int)+1))=(v:Int) by omega]
   ·rintro s H' ⟨⟨Lk,rfl,hLk⟩,t0,t10,t13⟩
    simp -implicitDefEqProofs only[↓reduceIte,go_sem,Nat.reduceLT,Nat.reduceEqDiff,t10,t13,hw6,show((a:Int)+(j:Int)<(i':Int)-1)=False from eq_false (by omega)]
    have:Lk=L':=by rw[hLk,hL',List.singleton_append,←hmg];simp
    rw[this]
    exact⟨_,an.refl _ _,rfl⟩
theorem l6(H:aa)(id ag:Nat)(hid:id<H.length)(g:FuncId)(caps:List AV)(c:ak→ak→Int)(ho:St.Ord (aW c))(hc:dJ g caps c H id)(n:Nat)(hbig:n≤1000000000000)(P X Y Q L L':List ak)(a m b:Nat)
  (hL:L=P++X++Y++Q) (hL':L'=P++St.aG (aW c) (X++Y)++Q) (ha:P.length=a) (hm:P.length+X.length=m) (hb:P.length+X.length+Y.length=b) (hX0:0<X.length) (hY0:0<Y.length) (hX:St.au (aW c) X) (hY:St.au (aW c) Y) (hn:L.length=n) (h1:¬X.length=1) (h2:Y.length=1):
  ah Tryz.prog 268 [.sl id ag 0 n,iA a,iA m,iA b,.fn g caps] (aH H id ag L) (.ok (.bq [])) (aH H id ag L'):=by
 have hnl:P.length+X.length+Y.length+Q.length=n:=by rw[←hn,hL];simp;omega
 have w1:IntKind.i64.wrap ((m:Int)-(a:Int))=((X.length:Nat):Int):=by rw[wrap64_in _ (by omega) (by omega)];omega
 have w2:IntKind.i64.wrap ((b:Int)-(m:Int))=((Y.length:Nat):Int):=by rw[wrap64_in _ (by omega) (by omega)];omega
 have hLX:=uW hL ha
 have hLY:=vI hL hm
 generalize hE0:aH H id ag L=E0
 have gh:=cf hid ag L
 rw[hE0]at gh
 have hcE:∀x y:ak,ah Tryz.prog g ([.agg ((ak.enc x).map .d),.agg ((ak.enc y).map .d)]++caps) E0 (.ok (iA (c x y))) E0:=fun x y=>by rw[←hE0];exact hc.at ag L x y
 refine ah.aj (hint:=(fun _=>false)) Tryz.func268 (by kernel_rfl) rfl [] (by kernel_rfl) (by decide) (by simp[Tryz.ntmps268]) ?_
 rw[Tryz.ntmps268]
 obtain⟨y,rfl⟩:∃y,Y=[y]:=List.length_eq_one_iff.1 h2
 simp -implicitDefEqProofs only[↓reduceIte,go_sem,Nat.reduceLT,Nat.reduceEqDiff,w1,w2,show(((X.length:Nat):Int)=1)=False from eq_false (by omega),h2]
 refine br _ _ _ _ (fun(z:Nat×Nat) s H'=>H'=E0∧z.1≤z.2∧z.2≤X.length∧(z.1=0∨∃x,X[z.1-1]?=some x∧aW c y x=false)∧(z.2=X.length∨∃x,X[z.2]?=some x∧aW c y x=true)∧
  s 0= .sl id ag 0 n∧s 2=iA m∧s 4= .fn g caps∧s 14=iA ((a+z.1:Nat):Int)∧s 15=iA ((a+z.2:Nat):Int)) (fun z=>z.2-z.1) (0,X.length) (an.refl _ _) ?_ ?_
 ·refine⟨rfl,Nat.zero_le _,Nat.le_refl _,.inl rfl,.inl rfl,?_⟩
  simp -implicitDefEqProofs only[↓reduceIte,go_sem,Nat.reduceLT,Nat.reduceEqDiff,reduceCtorEq,show((a:Int)+((X.length:Nat):Int))=(m:Int) by omega,Nat.add_zero]
 ·rintro⟨i,j⟩ s H' ⟨rfl,hij,hj,hlo,hhi,t0,t2,t4,t14,t15⟩
  simp only at hij hj hlo hhi t14 t15
  obtain⟨i',hi'⟩:∃i',i'=a+i:=⟨_,rfl⟩
  obtain⟨j',hj'⟩:∃j',j'=a+j:=⟨_,rfl⟩
  rw[←hi']at t14
  rw[←hj']at t15
  have f1:((a:Int)+(i:Int))=(i':Int):=by omega
  have f2:((a:Int)+(j:Int))=(j':Int):=by omega
  by_cases hlt:i<j
  ·obtain⟨q,hq⟩:∃q,q=i'+j':=⟨_,rfl⟩
   have w3:IntKind.i64.wrap ((i':Int)+(j':Int))=(q:Int):=by rw[wrap64_in _ (by omega) (by omega)];omega
   have w4:=eR q (by omega)
   obtain⟨h,hh⟩:∃h,h=q/2:=⟨_,rfl⟩
   rw[←hh]at w4
   obtain⟨x,hx⟩:∃x,X[h-a]?=some x:=⟨_,List.getElem?_eq_getElem (show h-a<X.length by omega)⟩
   have gx:=aD (hLX _ _ hx)
   rw[show a+(h-a)=h by omega]at gx
   have gy:=aD (hLY 0 y rfl)
   rw[Nat.add_zero]at gy
   have hd:=hcE y x
   simp only[ak.enc]at gx gy
   try simp only[ak.enc,List.map_cons,List.map_nil]at hd
   have hln:h<n:=by omega
   have hmn:m<n:=by omega
   simp -implicitDefEqProofs only[↓reduceIte,go_sem,Nat.reduceLT,Nat.reduceEqDiff,Int.reduceLE,t14,t15,show((i':Int)<(j':Int))=True from eq_true (by omega),w3,w4]
   refine aR K.mixed (by kernel_rfl) ?_
   simp -implicitDefEqProofs only[↓reduceIte,go_sem,ae,Nat.reduceAdd,Nat.reduceLT,Nat.reduceEqDiff,reduceCtorEq,t0,t2,t4,gh,gx,gy,hln,hmn]
   refine ab.ok hd ?_
   by_cases hcc:c y x<0
   ·simp -implicitDefEqProofs only[↓reduceIte,go_sem,Nat.reduceLT,Nat.reduceEqDiff,hcc]
    refine⟨_,_,(i,h-a),an.refl _ _,⟨rfl,by simp only;omega,by simp only;omega,hlo,.inr ⟨x,hx,by simp[aW,hcc]⟩,?_⟩,by simp only;omega⟩
    simp -implicitDefEqProofs only[↓reduceIte,go_sem,Nat.reduceLT,Nat.reduceEqDiff,reduceCtorEq,t0,t2,t4,t14,show((a:Int)+((h-a:Nat):Int))=(h:Int) by omega,f1]
   ·have hw5:IntKind.i64.wrap ((h:Int)+1)=((a+(h-a+1):Nat):Int):=by rw[wrap64_in _ (by omega) (by omega)];omega
    obtain⟨h2,hh2⟩:∃h2,h2=a+(h-a+1):=⟨_,rfl⟩
    rw[←hh2]at hw5
    simp -implicitDefEqProofs only[↓reduceIte,go_sem,Nat.reduceLT,Nat.reduceEqDiff,hcc,hw5]
    refine⟨_,_,(h-a+1,j),an.refl _ _,⟨rfl,by simp only;omega,hj,.inr ⟨x,by simpa using hx,by simp[aW,hcc]⟩,hhi,?_⟩,by simp only;omega⟩
    simp -implicitDefEqProofs only[↓reduceIte,go_sem,Nat.reduceLT,Nat.reduceEqDiff,reduceCtorEq,t0,t2,t4,t15,show((a:Int)+(((h-a:Nat):Int)+1))=(h2:Int) by omega,f2]
  ·obtain rfl:j=i:=by omega
   have hmg:=St.oq ho hX hj hhi hlo
   simp -implicitDefEqProofs only[↓reduceIte,go_sem,Nat.reduceLT,Nat.reduceEqDiff,t14,t15,show((i':Int)<(j':Int))=False from eq_false (by omega),t2]
   refine br _ _ _ _ (fun(k:Nat) s H'=>k≤X.length-j∧(∃Lk,H'=aH H id ag Lk∧Lk=P++X.take (j+k)++y::(X.drop (j+k)++Q))∧s 0= .sl id ag 0 n∧s 14=iA i'∧s 17=iA ((i':Int)+(k:Int))) (fun k=>k) (X.length-j) (an.refl _ _) ?_ ?_
   ·refine⟨Nat.le_refl _,⟨L,hE0.symm,?_⟩,?_⟩
    ·rw[show j+(X.length-j)=X.length by omega,List.take_length,List.drop_length,hL];simp
    ·simp -implicitDefEqProofs only[↓reduceIte,go_sem,Nat.reduceLT,Nat.reduceEqDiff,reduceCtorEq,t0,t14,show((i':Int)+((X.length-j:Nat):Int))=(m:Int) by omega]
   ·rintro k s H' ⟨hkx,⟨Lk,rfl,hLk⟩,t0,t14,t17⟩
    cases k with
    |zero=>
     simp -implicitDefEqProofs only[↓reduceIte,go_sem,Nat.reduceLT,Nat.reduceEqDiff,t14,t17,Int.add_zero,Int.lt_irrefl]
     have:Lk=L':=by rw[hLk,hL',Nat.add_zero,←hmg];simp
     rw[this]
     exact⟨_,an.refl _ _,rfl⟩
    |succ k=>
     have hkX:j+k<X.length:=by omega
     have e1:X.drop (j+k)=X[j+k]::X.drop (j+k+1):=List.drop_eq_getElem_cons hkX
     have e2:X.take (j+k+1)=X.take (j+k)++[X[j+k]]:=List.take_succ_eq_append_getElem hkX
     rw[show j+(k+1)=j+k+1 by omega,e2]at hLk
     have l1:(P++X.take (j+k)).length=i'+k:=by simp;omega
     obtain⟨u,hu⟩:∃u,u=i'+k:=⟨_,rfl⟩
     obtain⟨v,hv⟩:∃v,v=u+1:=⟨_,rfl⟩
     rw[←hu]at l1
     have fk:((i':Int)+((k+1:Nat):Int))=(v:Int):=by omega
     have fk2:((i':Int)+(k:Int))=(u:Int):=by omega
     rw[fk]at t17
     generalize X[j+k]=x at*
     generalize X.drop (j+k+1)=X1 at*
     obtain⟨g1,g2,_,g4,_,g6⟩:=gu (L:=Lk) (P:=P++X.take (j+k)) (x:=x) (y:=y) (R:=X1++Q) (by rw[hLk];simp) l1
     rw[←hv]at g2 g4 g6
     have hw7:IntKind.i64.wrap ((v:Int)-1)=(u:Int):=by rw[wrap64_in _ (by omega) (by omega)];omega
     have gg:=cf hid ag Lk
     have q1:=aD g1
     have q2:=aD g2
     have q4:=aD g4
     have s1:=b8 Lk v x
     have s2:=b8 (Lk.set v x) u y
     rw[g6]at s2
     have hun:u<n:=by omega
     have hvn:v<n:=by omega
     simp only[ak.enc]at q1 q2 q4 s1 s2
     simp -implicitDefEqProofs only[↓reduceIte,go_sem,Nat.reduceLT,Nat.reduceEqDiff,t14,t17,show((i':Int)<(v:Int))=True from eq_true (by omega)]
     refine dE [false,false,false,false,false,false,false,false,false,false,false,false,false,false,true,true,true,true] 14 K.mixed (by kernel_rfl) (by kernel_rfl) (by kernel_rfl) ?_
     simp -implicitDefEqProofs only[↓reduceIte,go_sem,ae,aw,Nat.reduceAdd,Nat.reduceLT,Nat.reduceEqDiff,reduceCtorEq,t0,t17,hw7,hun,hvn,gg,q1,q2,q4,s1,s2,dT,hid,List.getElem?_set_self,List.set_set]
     refine⟨_,_,k,an.refl _ _,⟨by omega,⟨_,by rw[←dp],by rw[e1];simp⟩,?_⟩,by omega⟩
     simp -implicitDefEqProofs only[↓reduceIte,go_sem,Nat.reduceLT,Nat.reduceEqDiff,reduceCtorEq,t0,t14,fk2]
end SV
end Go.Proofs.YtggohfhfocgilaaGreat
namespace Go.Proofs.YtggohfhfocgilaaGreat
open Go.Proofs.YtggohfhfocgilaaGreatAw Go.RowKit
namespace SV
def Hid(p:Prop):Prop:=p
theorem lk{a m b q mid n0 s0 r0 lx ly:Nat}(hm:a+lx=m)(hb:a+lx+ly=b)(hq:q=a+b)(hmid:mid=q/2)(hn0:n0=mid+m)(hs0:s0=if mid<m then n0-b else a)(hr0:r0=if mid<m then mid else m)(hx:0<lx)(hy:0<ly)(h1:¬lx=1):
  (s0≤r0∧a≤s0∧r0≤m∧r0≤mid)∧(n0≤b+s0∧mid<b∧a<mid)∧Hid (r0=m∨n0=m+r0)∧Hid (s0=a∨n0=b+s0)∧m+r0≤n0∧(mid<m→b≤n0):=by
 by_cases h:mid<m
 ·rw[if_pos h]at hs0 hr0;unfold Hid;omega
 ·rw[if_neg h]at hs0 hr0;unfold Hid;omega
theorem lW(H:aa)(id ag:Nat)(hid:id<H.length)(g:FuncId)(caps:List AV)(c:ak→ak→Int)(ho:St.Ord (aW c))(hc:dJ g caps c H id)(n:Nat)(hbig:n≤1000000000000)(P X Y Q L L':List ak)(a m b:Nat)
  (hL:L=P++X++Y++Q) (hL':L'=P++St.aG (aW c) (X++Y)++Q) (ha:P.length=a) (hm:P.length+X.length=m) (hb:P.length+X.length+Y.length=b) (hX0:0<X.length) (hY0:0<Y.length) (hX:St.au (aW c) X) (hY:St.au (aW c) Y) (hn:L.length=n) (h1:¬X.length=1) (h2:¬Y.length=1)
  (ih:∀(P' X' Y' Q' L1 L2:List ak) (a' m' b':Nat),X'.length+Y'.length<X.length+Y.length→L1=P'++X'++Y'++Q'→L2=P'++St.aG (aW c) (X'++Y')++Q'→P'.length=a'→P'.length+X'.length=m'→P'.length+X'.length+Y'.length=b'→0<X'.length→0<Y'.length→
   St.au (aW c) X'→St.au (aW c) Y'→L1.length=n→ah Tryz.prog 268 [.sl id ag 0 n,iA a',iA m',iA b',.fn g caps] (aH H id ag L1) (.ok (.bq [])) (aH H id ag L2)):
  ah Tryz.prog 268 [.sl id ag 0 n,iA a,iA m,iA b,.fn g caps] (aH H id ag L) (.ok (.bq [])) (aH H id ag L'):=by
 have hnl:P.length+X.length+Y.length+Q.length=n:=by rw[←hn,hL];simp;omega
 have w1:IntKind.i64.wrap ((m:Int)-(a:Int))=((X.length:Nat):Int):=by rw[wrap64_in _ (by omega) (by omega)];omega
 have w2:IntKind.i64.wrap ((b:Int)-(m:Int))=((Y.length:Nat):Int):=by rw[wrap64_in _ (by omega) (by omega)];omega
 have hLX:=uW hL ha
 have hLY:=vI hL hm
 generalize hE0:aH H id ag L=E0
 have gh:=cf hid ag L
 rw[hE0]at gh
 have hcE:∀x y:ak,ah Tryz.prog g ([.agg ((ak.enc x).map .d),.agg ((ak.enc y).map .d)]++caps) E0 (.ok (iA (c x y))) E0:=fun x y=>by rw[←hE0];exact hc.at ag L x y
 refine ah.aj (hint:=(fun _=>false)) Tryz.func268 (by kernel_rfl) rfl [] (by kernel_rfl) (by decide) (by simp[Tryz.ntmps268]) ?_
 rw[Tryz.ntmps268]
 obtain⟨q,hq⟩:∃q,q=a+b:=⟨_,rfl⟩
 obtain⟨mid,hmid⟩:∃mid,mid=q/2:=⟨_,rfl⟩
 obtain⟨n0,hn0⟩:∃n0,n0=mid+m:=⟨_,rfl⟩
 obtain⟨p,hp⟩:∃p,p=n0-1:=⟨_,rfl⟩
 have w3:IntKind.i64.wrap ((a:Int)+(b:Int))=(q:Int):=by rw[wrap64_in _ (by omega) (by omega)];omega
 have w4:=eR q (by omega)
 rw[←hmid]at w4
 have w5:IntKind.i64.wrap ((mid:Int)+(m:Int))=(n0:Int):=by rw[wrap64_in _ (by omega) (by omega)];omega
 have w6:IntKind.i64.wrap ((n0:Int)-1)=(p:Int):=by rw[wrap64_in _ (by omega) (by omega)];omega
 obtain⟨s0,hs0⟩:∃s0,s0=if mid<m then n0-b else a:=⟨_,rfl⟩
 obtain⟨r0,hr0⟩:∃r0,r0=if mid<m then mid else m:=⟨_,rfl⟩
 obtain⟨a1,a2,a3,a4,a5,a6⟩:=lk (by omega) (by omega) hq hmid hn0 hs0 hr0 hX0 hY0 h1
 have w7:mid<m→IntKind.i64.wrap ((n0:Int)-(b:Int))=(s0:Int):=fun h=>by have:=a6 h;rw[if_pos h]at hs0;rw[wrap64_in _ (by omega) (by omega)];omega
 simp -implicitDefEqProofs only[↓reduceIte,go_sem,Nat.reduceLT,Nat.reduceEqDiff,Int.reduceLE,w1,w2,show(((X.length:Nat):Int)=1)=False from eq_false (by omega),show(((Y.length:Nat):Int)=1)=False from eq_false (by omega),w3,w4,w5]
 refine dX (fun s H'=>H'=E0∧s 0= .sl id ag 0 n∧s 1=iA a∧s 2=iA m∧s 3=iA b∧s 4= .fn g caps∧s 18=iA mid∧s 19=iA n0∧s 20=iA s0∧s 21=iA r0) rfl ?_ ?_
 ·by_cases hmm:mid<m
  ·simp -implicitDefEqProofs only[↓reduceIte,go_sem,Nat.reduceLT,Nat.reduceEqDiff,reduceCtorEq,eq_true hmm,w7 hmm]
   rw[hr0,if_pos hmm]
  ·simp -implicitDefEqProofs only[↓reduceIte,go_sem,Nat.reduceLT,Nat.reduceEqDiff,reduceCtorEq,eq_false hmm]
   rw[hs0,hr0,if_neg hmm,if_neg hmm]
   exact⟨rfl,rfl⟩
 ·clear hs0 hr0 w3 w4 w5 w7 a6 hmid
  rintro s H' ⟨rfl,t0,t1,t2,t3,t4,t18,t19,t20,t21⟩
  simp -implicitDefEqProofs only[↓reduceIte,go_sem,Nat.reduceLT,t19,w6]
  refine fq (fun s H1=>H1=H'∧(∃st,s0≤st∧st≤r0∧Hid (st=s0∨∃x y,X[st-1-a]?=some x∧Y[n0-st-m]?=some y∧aW c y x=false)∧Hid (st=r0∨∃x y,X[st-a]?=some x∧Y[p-st-m]?=some y∧aW c y x=true)∧s 20=iA st)∧
   s 0= .sl id ag 0 n∧s 1=iA a∧s 2=iA m∧s 3=iA b∧s 4= .fn g caps∧s 18=iA mid∧s 19=iA n0) rfl ?_ ?_
  ·refine br _ _ _ _ (fun(z:Nat×Nat) s H1=>H1=H'∧s0≤z.1∧z.1≤z.2∧z.2≤r0∧Hid (z.1=s0∨∃x y,X[z.1-1-a]?=some x∧Y[n0-z.1-m]?=some y∧aW c y x=false)∧Hid (z.2=r0∨∃x y,X[z.2-a]?=some x∧Y[p-z.2-m]?=some y∧aW c y x=true)∧
    s 0= .sl id ag 0 n∧s 1=iA a∧s 2=iA m∧s 3=iA b∧s 4= .fn g caps∧s 18=iA mid∧s 19=iA n0∧s 20=iA z.1∧s 21=iA z.2∧s 22=iA p) (fun z=>z.2-z.1) (s0,r0) (an.refl _ _) ?_ ?_
   ·refine⟨rfl,Nat.le_refl _,a1.1,Nat.le_refl _,.inl rfl,.inl rfl,?_⟩
    simp -implicitDefEqProofs only[↓reduceIte,go_sem,Nat.reduceLT,Nat.reduceEqDiff,reduceCtorEq,t0,t1,t2,t3,t4,t18,t19,t20,t21]
   ·rintro⟨i,j⟩ s H1 ⟨rfl,hi0,hij,hj0,hlo,hhi,t0,t1,t2,t3,t4,t18,t19,t20,t21,t22⟩
    simp only at hi0 hij hj0 hlo hhi t20 t21
    by_cases hlt:i<j
    ·obtain⟨qq,hqq⟩:∃qq,qq=i+j:=⟨_,rfl⟩
     have v3:IntKind.i64.wrap ((i:Int)+(j:Int))=(qq:Int):=by rw[wrap64_in _ (by omega) (by omega)];omega
     have v4:=eR qq (by omega)
     obtain⟨h,hh⟩:∃h,h=qq/2:=⟨_,rfl⟩
     rw[←hh]at v4
     have hpc:m≤p-h∧p-h<b∧h<m∧a≤h:=by omega
     obtain⟨pc,hpc2⟩:∃pc,pc=p-h:=⟨_,rfl⟩
     have v5:IntKind.i64.wrap ((p:Int)-(h:Int))=(pc:Int):=by rw[wrap64_in _ (by omega) (by omega)];omega
     obtain⟨x,hx⟩:∃x,X[h-a]?=some x:=⟨_,List.getElem?_eq_getElem (show h-a<X.length by omega)⟩
     obtain⟨y,hy⟩:∃y,Y[pc-m]?=some y:=⟨_,List.getElem?_eq_getElem (show pc-m<Y.length by omega)⟩
     have gx:=aD (hLX _ _ hx)
     rw[show a+(h-a)=h by omega]at gx
     have gy:=aD (hLY _ _ hy)
     rw[show m+(pc-m)=pc by omega]at gy
     have hd:=hcE y x
     simp only[ak.enc]at gx gy
     try simp only[ak.enc,List.map_cons,List.map_nil]at hd
     have hln:h<n:=by omega
     have hpn:pc<n:=by omega
     simp -implicitDefEqProofs only[↓reduceIte,go_sem,Nat.reduceLT,Nat.reduceEqDiff,Int.reduceLE,t20,t21,eq_true hlt,v3,v4]
     refine aR K.mixed (by kernel_rfl) ?_
     simp -implicitDefEqProofs only[↓reduceIte,go_sem,ae,Nat.reduceAdd,Nat.reduceLT,Nat.reduceEqDiff,reduceCtorEq,t0,t4,t22,gh,gx,gy,hln,hpn,v5]
     refine ab.ok hd ?_
     by_cases hcc:c y x<0
     ·simp -implicitDefEqProofs only[↓reduceIte,go_sem,Nat.reduceLT,Nat.reduceEqDiff,hcc]
      refine⟨_,_,(i,h),an.refl _ _,⟨rfl,hi0,by simp only;omega,by simp only;omega,hlo,.inr ⟨x,y,hx,by rw[←hpc2];exact hy,by simp[aW,hcc]⟩,?_⟩,by simp only;omega⟩
      simp -implicitDefEqProofs only[↓reduceIte,go_sem,Nat.reduceLT,Nat.reduceEqDiff,reduceCtorEq,t0,t1,t2,t3,t4,t18,t19,t20,t22]
     ·have v6:IntKind.i64.wrap ((h:Int)+1)=(h:Int)+1:=wrap64_in _ (by omega) (by omega)
      simp -implicitDefEqProofs only[↓reduceIte,go_sem,Nat.reduceLT,Nat.reduceEqDiff,hcc,v6]
      refine⟨_,_,(h+1,j),an.refl _ _,⟨rfl,by simp only;omega,by simp only;omega,hj0,.inr ⟨x,y,by simpa using hx,by rw[show n0-(h+1)-m=pc-m by omega];exact hy,by simp[aW,hcc]⟩,hhi,?_⟩,by simp only;omega⟩
      simp -implicitDefEqProofs only[↓reduceIte,go_sem,Nat.reduceLT,Nat.reduceEqDiff,reduceCtorEq,t0,t1,t2,t3,t4,t18,t19,t21,t22]
    ·obtain rfl:j=i:=by omega
     simp -implicitDefEqProofs only[↓reduceIte,go_sem,Nat.reduceLT,Nat.reduceEqDiff,reduceCtorEq,t20,t21,Nat.lt_irrefl]
     exact⟨⟨j,hi0,hj0,hlo,hhi,rfl⟩,t0,t1,t2,t3,t4,t18,t19⟩
  ·rintro s H1 ⟨rfl,⟨st,hst0,hst1,hlo,hhi,t20⟩,t0,t1,t2,t3,t4,t18,t19⟩
   clear w6
   obtain⟨e,he⟩:∃e,e=n0-st:=⟨_,rfl⟩
   obtain⟨sX,hsX⟩:∃sX,sX=st-a:=⟨_,rfl⟩
   obtain⟨eY,heY⟩:∃eY,eY=e-m:=⟨_,rfl⟩
   have w8:IntKind.i64.wrap ((n0:Int)-(st:Int))=(e:Int):=by rw[wrap64_in _ (by omega) (by omega)];omega
   have b1:sX≤X.length∧eY≤Y.length∧m≤e∧e≤b∧mid=st+eY∧e=mid+(m-st):=by omega
   have hcut:=St.lT ho hX hY (s:=sX) (e:=eY) b1.1 b1.2.1 ?_ ?_
   rotate_left
   ·rcases hhi with h|⟨x,y,hx,hy,h⟩
    ·rcases a3 with h3|h3
     ·exact .inl (by omega)
     ·exact .inr (.inl (by omega))
    ·exact .inr (.inr ⟨x,y,by rw[hsX];exact hx,by rw[show eY-1=p-st-m by omega];exact hy,h⟩)
   ·rcases hlo with h|⟨x,y,hx,hy,h⟩
    ·rcases a4 with h4|h4
     ·exact .inl (by omega)
     ·exact .inr (.inl (by omega))
    ·exact .inr (.inr ⟨x,y,by rw[show sX-1=st-1-a by omega];exact hx,by rw[show eY=n0-st-m by omega];exact hy,h⟩)
   have hXs:=hX
   have hYs:=hY
   have eX:X.take sX++X.drop sX=X:=List.take_append_drop _ _
   have eY':Y.take eY++Y.drop eY=Y:=List.take_append_drop _ _
   have lA:(X.take sX).length=sX:=by rw[List.length_take];omega
   have lU:(X.drop sX).length=X.length-sX:=List.length_drop
   have lV:(Y.take eY).length=eY:=by rw[List.length_take];omega
   have lB:(Y.drop eY).length=Y.length-eY:=List.length_drop
   rw[←eX]at hXs
   rw[←eY']at hYs
   have sA:=hXs.left
   have sU:=hXs.right
   have sV:=hYs.left
   have sB:=hYs.right
   clear hXs hYs hlo hhi a3 a4
   generalize hA:X.take sX=A at*
   generalize hU:X.drop sX=U at*
   generalize hV:Y.take eY=V at*
   generalize hB:Y.drop eY=B at*
   have hLL:L=P++A++U++V++(B++Q):=by rw[hL,←eX,←eY'];simp
   obtain⟨L1,hL1⟩:∃L1,L1=P++A++V++U++(B++Q):=⟨_,rfl⟩
   obtain⟨L2,hL2⟩:∃L2,L2=P++St.aG (aW c) (A++V)++U++B++Q:=⟨_,rfl⟩
   have hL3:L'=P++St.aG (aW c) (A++V)++St.aG (aW c) (U++B)++Q:=by rw[hL',←hcut];simp
   have n1:L1.length=n:=by rw[←hn,hLL,hL1];simp;omega
   have n2:L2.length=n:=by rw[←hn,hLL,hL2];simp[St.aX];omega
   rw[dq]
   refine fJ (fun s H2=>H2=aH H id ag L∧s 0= .sl id ag 0 n∧s 1=iA a∧s 2=iA m∧s 3=iA b∧s 4= .fn g caps∧s 18=iA mid∧s 20=iA st∧s 24=iA e) rfl (by simp -implicitDefEqProofs only[↓reduceIte,go_sem,Nat.reduceLT,Nat.reduceEqDiff,reduceCtorEq,t0,t1,t2,t3,t4,t18,t19,t20,w8,hE0]) ?_
   rintro s H2 ⟨rfl,t0,t1,t2,t3,t4,t18,t20,t24⟩
   rw[dq]
   refine fJ (fun s H2=>H2=aH H id ag L1∧s 0= .sl id ag 0 n∧s 1=iA a∧s 2=iA m∧s 3=iA b∧s 4= .fn g caps∧s 18=iA mid∧s 20=iA st∧s 24=iA e) rfl ?_ ?_
   ·have same:U=[]∨V=[]→aH H id ag L=aH H id ag L1:=fun h=>by
     rw[hL1,hLL];rcases h with rfl|rfl<;>simp
    by_cases c1:st<m
    ·by_cases c2:m<e
     ·simp -implicitDefEqProofs only[↓reduceIte,go_sem,Nat.reduceLT,Nat.reduceEqDiff,reduceCtorEq,t2,t20,t24,eq_true c1,eq_true c2]
      simp -implicitDefEqProofs only[go_sem,t0,t4]
      refine ab.ok (ja H id ag hid g caps (P++A) U V (B++Q) L L1 hLL (by rw[hL1]) st m e n (by simp;omega) (by simp;omega) (by simp;omega) (by omega) (by omega) hn hbig) ?_
      simp -implicitDefEqProofs only[↓reduceIte,go_sem,Nat.reduceEqDiff,reduceCtorEq,t0,t1,t2,t3,t4,t18,t20,t24]
     ·simp -implicitDefEqProofs only[↓reduceIte,go_sem,Nat.reduceLT,Nat.reduceEqDiff,reduceCtorEq,t2,t20,t24,eq_true c1,eq_false c2]
      simp -implicitDefEqProofs only[go_sem,t0,t1,t3,t4,t18]
      exact same (.inr (List.eq_nil_of_length_eq_zero (by omega)))
    ·simp -implicitDefEqProofs only[↓reduceIte,go_sem,Nat.reduceLT,Nat.reduceEqDiff,reduceCtorEq,t2,t20,t24,eq_false c1]
     simp -implicitDefEqProofs only[go_sem,t0,t1,t3,t4,t18]
     exact same (.inl (List.eq_nil_of_length_eq_zero (by omega)))
   rintro s H2 ⟨rfl,t0,t1,t2,t3,t4,t18,t20,t24⟩
   rw[dq]
   refine fJ (fun s H2=>H2=aH H id ag L2∧s 0= .sl id ag 0 n∧s 3=iA b∧s 4= .fn g caps∧s 18=iA mid∧s 24=iA e) rfl ?_ ?_
   ·have same:A=[]∨V=[]→aH H id ag L1=aH H id ag L2:=fun h=>by
     have:St.aG (aW c) (A++V)=A++V:=by
      rcases h with rfl|rfl
      ·simpa using St.cr ho sV
      ·simpa using St.cr ho sA
     rw[hL1,hL2,this];simp
    by_cases c1:a<st
    ·by_cases c2:st<mid
     ·simp -implicitDefEqProofs only[↓reduceIte,go_sem,Nat.reduceLT,Nat.reduceEqDiff,reduceCtorEq,t1,t18,t20,eq_true c1,eq_true c2]
      simp -implicitDefEqProofs only[go_sem,t0,t4]
      refine ab.ok (ih P A V (U++(B++Q)) L1 L2 a st mid (by omega) (by rw[hL1];simp) (by rw[hL2];simp) ha (by omega) (by omega) (by omega) (by omega) sA sV n1) ?_
      simp -implicitDefEqProofs only[↓reduceIte,go_sem,Nat.reduceEqDiff,reduceCtorEq,t0,t3,t4,t18,t24]
     ·simp -implicitDefEqProofs only[↓reduceIte,go_sem,Nat.reduceLT,Nat.reduceEqDiff,reduceCtorEq,t1,t18,t20,eq_true c1,eq_false c2]
      simp -implicitDefEqProofs only[go_sem,t0,t3,t4,t24]
      exact same (.inr (List.eq_nil_of_length_eq_zero (by omega)))
    ·simp -implicitDefEqProofs only[↓reduceIte,go_sem,Nat.reduceLT,Nat.reduceEqDiff,reduceCtorEq,t1,t18,t20,eq_false c1]
     simp -implicitDefEqProofs only[go_sem,t0,t3,t4,t24]
     exact same (.inl (List.eq_nil_of_length_eq_zero (by omega)))
   rintro s H2 ⟨rfl,t0,t3,t4,t18,t24⟩
   have same:U=[]∨B=[]→aH H id ag L2=aH H id ag L':=fun h=>by
    have:St.aG (aW c) (U++B)=U++B:=by
     rcases h with rfl|rfl
     ·simpa using St.cr ho sB
     ·simpa using St.cr ho sU
    rw[hL2,hL3,this];simp
   by_cases c1:mid<e
   ·by_cases c2:e<b
    ·simp -implicitDefEqProofs only[↓reduceIte,go_sem,Nat.reduceLT,Nat.reduceEqDiff,reduceCtorEq,t3,t18,t24,eq_true c1,eq_true c2]
     simp -implicitDefEqProofs only[go_sem,t0,t4]
     have lS:=St.aX (lt:=aW c) (A++V)
     rw[List.length_append]at lS
     refine ab.ok (ih (P++St.aG (aW c) (A++V)) U B Q L2 L' mid e b (by omega) (by rw[hL2]) (by rw[hL3]) (by simp;omega) (by simp;omega) (by simp;omega) (by omega) (by omega) sU sB n2) ?_
     simp -implicitDefEqProofs only[go_sem]
     exact⟨_,an.refl _ _,rfl⟩
    ·simp -implicitDefEqProofs only[↓reduceIte,go_sem,Nat.reduceLT,Nat.reduceEqDiff,t3,t18,t24,eq_true c1,eq_false c2]
     rw[same (.inr (List.eq_nil_of_length_eq_zero (by omega)))]
     exact⟨_,an.refl _ _,rfl⟩
   ·simp -implicitDefEqProofs only[↓reduceIte,go_sem,Nat.reduceLT,Nat.reduceEqDiff,reduceCtorEq,t18,t24,eq_false c1]
    rw[same (.inl (List.eq_nil_of_length_eq_zero (by omega)))]
    exact⟨_,an.refl _ _,rfl⟩
end SV
end Go.Proofs.YtggohfhfocgilaaGreat
namespace Go.Proofs.YtggohfhfocgilaaGreat
open Go.Proofs.YtggohfhfocgilaaGreatAw Go.RowKit
namespace SV
theorem dm(H:aa)(id ag:Nat)(hid:id<H.length)(g:FuncId)(caps:List AV)(c:ak→ak→Int)(ho:St.Ord (aW c))(hc:dJ g caps c H id)(n:Nat)(hbig:n≤1000000000000):∀(N:Nat) (P X Y Q L L':List ak) (a m b:Nat),X.length+Y.length≤N→
  L=P++X++Y++Q→L'=P++St.aG (aW c) (X++Y)++Q→P.length=a→P.length+X.length=m→P.length+X.length+Y.length=b→0<X.length→0<Y.length→St.au (aW c) X→St.au (aW c) Y→L.length=n→
  ah Tryz.prog 268 [.sl id ag 0 n,iA a,iA m,iA b,.fn g caps] (aH H id ag L) (.ok (.bq [])) (aH H id ag L'):=by
 intro N
 induction N with
 |zero=>intros;omega
 |succ N ih=>
  intro P X Y Q L L' a m b hN hL hL' ha hm hb hX0 hY0 hX hY hn
  by_cases h1:X.length=1
  ·exact l7 H id ag hid g caps c ho hc n hbig P X Y Q L L' a m b hL hL' ha hm hb hX0 hY0 hX hY hn h1
  ·by_cases h2:Y.length=1
   ·exact l6 H id ag hid g caps c ho hc n hbig P X Y Q L L' a m b hL hL' ha hm hb hX0 hY0 hX hY hn h1 h2
   ·exact lW H id ag hid g caps c ho hc n hbig P X Y Q L L' a m b hL hL' ha hm hb hX0 hY0 hX hY hn h1 h2 fun P' X' Y' Q' L1 L2 a' m' b' hlt=>ih P' X' Y' Q' L1 L2 a' m' b' (by omega)
theorem iP(H:aa)(id ag:Nat)(hid:id<H.length)(g:FuncId)(caps:List AV)(c:ak→ak→Int)(ho:St.Ord (aW c))(hc:dJ g caps c H id)(n:Nat)(hbig:n≤100000000000)(L:List ak)(hn:L.length=n):
  ah Tryz.prog 265 [.sl id ag 0 n,iA n,.fn g caps] (aH H id ag L) (.ok (.bq [])) (aH H id ag (St.aG (aW c) L)):=by
 generalize hE0:aH H id ag L=E0
 generalize hE1:aH H id ag (St.aG (aW c) L)=E1
 refine ah.aj (hint:=(fun _=>false)) Tryz.func265 (by kernel_rfl) rfl [] (by kernel_rfl) (by decide) (by simp[Tryz.ntmps265]) ?_
 rw[Tryz.ntmps265]
 simp -implicitDefEqProofs only[↓reduceIte,go_sem,Nat.reduceLT,Nat.reduceEqDiff]
 refine fq (fun s H'=>(∃Lk,H'=aH H id ag Lk∧St.bD (aW c) Lk L∧Lk.length=n∧(∃k,k* 20≤n∧n<(k+1)* 20∧(∀j,j<k→St.au (aW c) (St.ez 20 j Lk))∧s 7=iA ((k* 20:Nat):Int)))∧s 0= .sl id ag 0 n∧s 1=iA n∧s 2= .fn g caps∧s 6=iA 20) rfl ?_ ?_
 ·refine br _ _ _ _ (fun(k:Nat) s H'=>k* 20≤n∧(∃Lk,H'=aH H id ag Lk∧St.bD (aW c) Lk L∧Lk.length=n∧∀j,j<k→St.au (aW c) (St.ez 20 j Lk))∧s 0= .sl id ag 0 n∧s 1=iA n∧s 2= .fn g caps∧s 6=iA 20∧s 7=iA ((k* 20:Nat):Int)∧s 8=iA (((k+1)* 20:Nat):Int)) (fun k=>n-k) 0 (an.refl _ _) ?_ ?_
  ·refine⟨by omega,⟨L,hE0.symm,.refl _,hn,fun j hj=>by omega⟩,?_⟩
   simp -implicitDefEqProofs only[↓reduceIte,go_sem,Nat.reduceLT,Nat.reduceEqDiff,reduceCtorEq]
  ·rintro k s H' ⟨hk,⟨Lk,rfl,hst,hlen,hso⟩,t0,t1,t2,t6,t7,t8⟩
   obtain⟨a,ha⟩:∃a,a=k* 20:=⟨_,rfl⟩
   obtain⟨b,hb⟩:∃b,b=(k+1)* 20:=⟨_,rfl⟩
   rw[←ha]at t7
   rw[←hb]at t8
   by_cases hbn:b≤n
   ·obtain⟨P,hP⟩:∃P,P=Lk.take a:=⟨_,rfl⟩
    obtain⟨X,hX⟩:∃X,X=(Lk.drop a).take 20:=⟨_,rfl⟩
    obtain⟨Q,hQ⟩:∃Q,Q=Lk.drop (a+20):=⟨_,rfl⟩
    have hc3:Lk=P++X++Q:=by rw[hP,hX,hQ,St.Dk]
    have lP:P.length=a:=by rw[hP,List.length_take];omega
    have lX:X.length=20:=by rw[hX,List.length_take,List.length_drop];omega
    obtain⟨L1,hL1⟩:∃L1,L1=P++St.aG (aW c) X++Q:=⟨_,rfl⟩
    have lL1:L1.length=n:=by rw[hL1,←hlen,hc3];simp[St.aX]
    have hso1:∀j,j<k+1→St.au (aW c) (St.ez 20 j L1):=by
     rw[hL1];exact St.eC ho (by omega) (by rw[←hc3];exact hso) (.inl lX)
    have hst1:St.bD (aW c) L1 L:=by
     refine St.bD.trans ?_ hst
     rw[hL1,hc3];exact St.dC ho P X Q
    have w1:IntKind.i64.wrap ((b:Int)+20)=(((k+1+1)* 20:Nat):Int):=by rw[wrap64_in _ (by omega) (by omega)];omega
    obtain⟨b2,hb2⟩:∃b2,b2=(k+1+1)* 20:=⟨_,rfl⟩
    rw[←hb2]at w1
    simp -implicitDefEqProofs only[↓reduceIte,go_sem,Nat.reduceLT,Nat.reduceEqDiff,reduceCtorEq,t1,t8,eq_true hbn]
    simp -implicitDefEqProofs only[go_sem,t0,t2,t7]
    refine ab.ok (dS H id ag hid g caps c ho hc P X Q Lk L1 hc3 hL1 a b n lP (by omega) hlen (by omega)) ?_
    simp -implicitDefEqProofs only[↓reduceIte,go_sem,Nat.reduceLT,Nat.reduceEqDiff,t6,t8,w1]
    refine⟨_,_,k+1,an.refl _ _,⟨by omega,⟨L1,rfl,hst1,lL1,hso1⟩,?_⟩,by omega⟩
    rw[←hb,←hb2]
    simp -implicitDefEqProofs only[↓reduceIte,go_sem,Nat.reduceLT,Nat.reduceEqDiff,reduceCtorEq,t0,t1,t2,t6]
   ·simp -implicitDefEqProofs only[↓reduceIte,go_sem,Nat.reduceLT,Nat.reduceEqDiff,reduceCtorEq,t1,t8,eq_false hbn]
    refine⟨⟨Lk,rfl,hst,hlen,k,by omega,by omega,hso,?_⟩,?_⟩
    ·rw[←ha];simp -implicitDefEqProofs only[go_sem,t7]
    ·simp -implicitDefEqProofs only[go_sem,t0,t2,t6]
 rintro s H' ⟨⟨Lk,rfl,hst,hlen,k,hk1,hk2,hso,t7⟩,t0,t1,t2,t6⟩
 obtain⟨a,ha⟩:∃a,a=k* 20:=⟨_,rfl⟩
 rw[←ha]at t7
 have hc3:Lk=Lk.take a++Lk.drop a++[]:=by simp
 obtain⟨L1,hL1⟩:∃L1,L1=Lk.take a++St.aG (aW c) (Lk.drop a)++[]:=⟨_,rfl⟩
 have lP:(Lk.take a).length=a:=by rw[List.length_take];omega
 have lX:(Lk.drop a).length=n-a:=by rw[List.length_drop];omega
 have lL1:L1.length=n:=by rw[hL1];simp only[List.length_append,St.aX,lP,lX,List.length_nil];omega
 have hst1:St.bD (aW c) L1 L:=by
  refine St.bD.trans ?_ hst
  rw[hL1]
  have:=St.dC ho (Lk.take a) (Lk.drop a) []
  rwa[←hc3]at this
 have hb1:∀j,St.au (aW c) (St.ez 20 j L1):=by
  intro j
  rcases Nat.lt_or_ge j (k+1)with h|h
  ·rw[hL1]
   exact St.eC ho (by omega) (by rw[←hc3];exact hso) (.inr ⟨by omega,rfl⟩) j h
  ·have:=Nat.mul_le_mul_right 20 h
   rw[St.mR (by omega)]
   exact List.Pairwise.nil
 simp -implicitDefEqProofs only[↓reduceIte,go_sem,Nat.reduceLT,Nat.reduceEqDiff,t0,t1,t2,t7]
 refine ab.ok (dS H id ag hid g caps c ho hc _ _ _ Lk L1 hc3 hL1 a n n lP (by omega) hlen (by omega)) ?_
 clear hc3 hL1 lP lX hst hso hlen
 simp -implicitDefEqProofs only[go_sem]
 refine br _ _ _ _ (fun(z:Nat) s H'=>20≤z∧z≤2* n+20∧(∃Lk,H'=aH H id ag Lk∧St.bD (aW c) Lk L∧Lk.length=n∧∀j,St.au (aW c) (St.ez z j Lk))∧s 0= .sl id ag 0 n∧s 1=iA n∧s 2= .fn g caps∧s 6=iA z) (fun z=>n-z) 20 (an.refl _ _) ?_ ?_
 ·refine⟨Nat.le_refl _,by omega,⟨L1,rfl,hst1,lL1,hb1⟩,?_⟩
  simp -implicitDefEqProofs only[↓reduceIte,go_sem,Nat.reduceEqDiff,reduceCtorEq,t0,t1,t2,t6]
 clear hb1 hst1 lL1 t0 t1 t2 t6 t7 hk1 hk2 ha
 rintro z s H' ⟨hz1,hz2,⟨Lk,rfl,hst,hlen,hbl⟩,t0,t1,t2,t6⟩
 by_cases hzn:z<n
 ·have w1:IntKind.i64.wrap (2* (z:Int))=((2* z:Nat):Int):=by rw[wrap64_in _ (by omega) (by omega)];omega
  have w1':IntKind.i64.wrap ((z:Int)* 2)=((2* z:Nat):Int):=by rw[wrap64_in _ (by omega) (by omega)];omega
  obtain⟨y,hy⟩:∃y,y=2* z:=⟨_,rfl⟩
  rw[←hy]at w1 w1'
  simp -implicitDefEqProofs only[↓reduceIte,go_sem,Nat.reduceLT,Nat.reduceEqDiff,t1,t6,eq_true hzn,w1]
  refine fq (fun s H'=>(∃Lk,H'=aH H id ag Lk∧St.bD (aW c) Lk L∧Lk.length=n∧∃k a,a=k* y∧a=2* k* z∧a≤n∧n<a+y∧(∀j,j<k→St.au (aW c) (St.ez y j Lk))∧(∀j,2* k≤j→St.au (aW c) (St.ez z j Lk))∧s 7=iA a)∧s 0= .sl id ag 0 n∧s 1=iA n∧s 2= .fn g caps∧s 6=iA z) rfl ?_ ?_
  ·refine br _ _ _ _ (fun(k:Nat) s H'=>(∃a,a=k* y∧a=2* k* z∧a≤n∧s 7=iA a∧s 8=iA ((a+y:Nat):Int))∧(∃Lk,H'=aH H id ag Lk∧St.bD (aW c) Lk L∧Lk.length=n∧(∀j,j<k→St.au (aW c) (St.ez y j Lk))∧(∀j,2* k≤j→St.au (aW c) (St.ez z j Lk)))∧s 0= .sl id ag 0 n∧s 1=iA n∧s 2= .fn g caps∧s 6=iA z) (fun k=>n+1-k* y) 0 (an.refl _ _) ?_ ?_
   ·refine⟨⟨0,by omega,by omega,by omega,?_⟩,⟨Lk,rfl,hst,hlen,fun j hj=>by omega,fun j _=>hbl j⟩,?_⟩
    ·simp -implicitDefEqProofs only[↓reduceIte,go_sem,Nat.reduceLT,Nat.reduceEqDiff,Nat.zero_add]
    ·simp -implicitDefEqProofs only[↓reduceIte,go_sem,Nat.reduceEqDiff,reduceCtorEq,t0,t1,t2,t6]
   clear hst hlen hbl Lk t0 t1 t2 t6
   rintro k s H' ⟨⟨a,ha,ha2,han,t7,t8⟩,⟨Lk,rfl,hst,hlen,hso,hso2⟩,t0,t1,t2,t6⟩
   obtain⟨b,hb⟩:∃b,b=a+y:=⟨_,rfl⟩
   rw[←hb]at t8
   have hk1:(k+1)* y=a+y:=by rw[Nat.add_mul,←ha,Nat.one_mul]
   have hk2:2* (k+1)* z=a+2* z:=by rw[Nat.mul_add,Nat.add_mul,←ha2]
   have hk3:(2* k+1)* z=a+z:=by rw[Nat.add_mul,←ha2,Nat.one_mul]
   by_cases hbn:b≤n
   ·obtain⟨P,hP⟩:∃P,P=Lk.take a:=⟨_,rfl⟩
    obtain⟨X,hX⟩:∃X,X=(Lk.drop a).take z:=⟨_,rfl⟩
    obtain⟨Y,hY⟩:∃Y,Y=(Lk.drop (a+z)).take z:=⟨_,rfl⟩
    obtain⟨Q,hQ⟩:∃Q,Q=Lk.drop (a+z+z):=⟨_,rfl⟩
    have hc4:Lk=P++X++Y++Q:=by rw[hP,hX,hY,hQ,St.CC]
    have hc5:Lk=P++(X++Y)++Q:=by rw[hc4];simp
    have lP:P.length=a:=by rw[hP,List.length_take];omega
    have lX:X.length=z:=by rw[hX,List.length_take,List.length_drop];omega
    have lY:Y.length=z:=by rw[hY,List.length_take,List.length_drop];omega
    have lXY:(X++Y).length=y:=by rw[List.length_append];omega
    have sX:St.au (aW c) X:=by have:=hso2 (2* k) (Nat.le_refl _);rw[St.ez,←ha2,←hX]at this;exact this
    have sY:St.au (aW c) Y:=by have:=hso2 (2* k+1) (by omega);rw[St.ez,hk3,←hY]at this;exact this
    obtain⟨L1,hL1⟩:∃L1,L1=P++St.aG (aW c) (X++Y)++Q:=⟨_,rfl⟩
    have lL1:L1.length=n:=by rw[hL1,←hlen,hc5];simp[St.aX];try omega
    have hst1:St.bD (aW c) L1 L:=by
     refine St.bD.trans ?_ hst
     rw[hL1,hc5];exact St.dC ho P (X++Y) Q
    have hso1:∀j,j<k+1→St.au (aW c) (St.ez y j L1):=by
     rw[hL1];exact St.eC ho (by omega) (by rw[←hc5];exact hso) (.inl lXY)
    have hso3:∀j,2* (k+1)≤j→St.au (aW c) (St.ez z j L1):=fun j hj=>by
     have h1:=Nat.mul_le_mul_right z hj
     rw[hL1,St.n4 (X':=X++Y) (St.aX _) (by rw[St.aX,lXY,lP];omega),←hc5]
     exact hso2 j (by omega)
    clear hP hX hY hQ hst hso hso2
    obtain⟨m,hm⟩:∃m,m=a+z:=⟨_,rfl⟩
    obtain⟨b2,hb2⟩:∃b2,b2=b+y:=⟨_,rfl⟩
    have w2:IntKind.i64.wrap ((a:Int)+(z:Int))=(m:Int):=by rw[wrap64_in _ (by omega) (by omega)];omega
    have w3:IntKind.i64.wrap ((b:Int)+(y:Int))=(b2:Int):=by rw[wrap64_in _ (by omega) (by omega)];omega
    simp -implicitDefEqProofs only[↓reduceIte,go_sem,Nat.reduceLT,Nat.reduceEqDiff,reduceCtorEq,t1,t8,eq_true hbn]
    simp -implicitDefEqProofs only[↓reduceIte,go_sem,Nat.reduceLT,Nat.reduceEqDiff,t0,t2,t6,t7,t8,w2]
    refine ab.ok (dm H id ag hid g caps c ho hc n (by omega) _ P X Y Q Lk L1 a m b (Nat.le_refl _) hc4 hL1 lP (by omega) (by omega) (by omega) (by omega) sX sY hlen) ?_
    simp -implicitDefEqProofs only[↓reduceIte,go_sem,Nat.reduceLT,Nat.reduceEqDiff,t6,t8,w1,w3]
    refine⟨_,_,k+1,an.refl _ _,⟨⟨b,by omega,by omega,hbn,?_⟩,⟨L1,rfl,hst1,lL1,hso1,hso3⟩,?_⟩,by omega⟩
    ·simp -implicitDefEqProofs only[↓reduceIte,go_sem,Nat.reduceLT,Nat.reduceEqDiff,show((b:Int)+(y:Int))=(b2:Int) by omega]
    ·simp -implicitDefEqProofs only[↓reduceIte,go_sem,Nat.reduceEqDiff,reduceCtorEq,t0,t1,t2,t6]
   ·simp -implicitDefEqProofs only[↓reduceIte,go_sem,Nat.reduceLT,Nat.reduceEqDiff,reduceCtorEq,t1,t8,eq_false hbn]
    refine⟨⟨Lk,rfl,hst,hlen,k,a,ha,ha2,han,by omega,hso,hso2,?_⟩,?_⟩
    ·simp -implicitDefEqProofs only[go_sem,t7]
    ·simp -implicitDefEqProofs only[go_sem,t0,t2,t6]
  clear hst hlen hbl Lk t0 t1 t2 t6
  rintro s H' ⟨⟨Lk,rfl,hst,hlen,k,a,ha,ha2,han,hna,hso,hso2,t7⟩,t0,t1,t2,t6⟩
  have hk3:(2* k+1)* z=a+z:=by rw[Nat.add_mul,←ha2,Nat.one_mul]
  have hk1:(k+1)* y=a+y:=by rw[Nat.add_mul,←ha,Nat.one_mul]
  obtain⟨m,hm⟩:∃m,m=a+z:=⟨_,rfl⟩
  have w2:IntKind.i64.wrap ((a:Int)+(z:Int))=(m:Int):=by rw[wrap64_in _ (by omega) (by omega)];omega
  have all:∀L1:List ak,L1.length=n→(∀j,j<k+1→St.au (aW c) (St.ez y j L1))→∀j,St.au (aW c) (St.ez y j L1):=fun L1 hl h j=>by
   rcases Nat.lt_or_ge j (k+1)with h1|h1
   ·exact h j h1
   ·have:=Nat.mul_le_mul_right y h1
    rw[St.mR (by omega)]
    exact List.Pairwise.nil
  by_cases hmn:m<n
  ·obtain⟨P,hP⟩:∃P,P=Lk.take a:=⟨_,rfl⟩
   obtain⟨X,hX⟩:∃X,X=(Lk.drop a).take z:=⟨_,rfl⟩
   obtain⟨Y,hY⟩:∃Y,Y=(Lk.drop (a+z)).take z:=⟨_,rfl⟩
   have hQ:Lk.drop (a+z+z)=[]:=List.drop_of_length_le (by omega)
   have hc4:Lk=P++X++Y++[]:=by rw[hP,hX,hY,←hQ,St.CC]
   have hc5:Lk=P++(X++Y)++[]:=by rw[hc4];simp
   have lP:P.length=a:=by rw[hP,List.length_take];omega
   have lX:X.length=z:=by rw[hX,List.length_take,List.length_drop];omega
   have lY:Y.length=n-m:=by rw[hY,List.length_take,List.length_drop];omega
   have lXY:(X++Y).length≤y:=by rw[List.length_append];omega
   have sX:St.au (aW c) X:=by have:=hso2 (2* k) (Nat.le_refl _);rw[St.ez,←ha2,←hX]at this;exact this
   have sY:St.au (aW c) Y:=by have:=hso2 (2* k+1) (by omega);rw[St.ez,hk3,←hY]at this;exact this
   obtain⟨L1,hL1⟩:∃L1,L1=P++St.aG (aW c) (X++Y)++[]:=⟨_,rfl⟩
   have lL1:L1.length=n:=by rw[hL1,←hlen,hc5];simp[St.aX];try omega
   have hst1:St.bD (aW c) L1 L:=by
    refine St.bD.trans ?_ hst
    rw[hL1]
    have:=St.dC ho P (X++Y) []
    rwa[←hc5]at this
   have hso1:∀j,j<k+1→St.au (aW c) (St.ez y j L1):=by
    rw[hL1];exact St.eC ho (by omega) (by rw[←hc5];exact hso) (.inr ⟨lXY,rfl⟩)
   clear hP hX hY hQ hst hso hso2
   simp -implicitDefEqProofs only[↓reduceIte,go_sem,Nat.reduceLT,Nat.reduceEqDiff,reduceCtorEq,t1,t6,t7,w2,eq_true hmn]
   simp -implicitDefEqProofs only[go_sem,t0,t2]
   refine ab.ok (dm H id ag hid g caps c ho hc n (by omega) _ P X Y [] Lk L1 a m n (Nat.le_refl _) hc4 hL1 lP (by omega) (by omega) (by omega) (by omega) sX sY hlen) ?_
   simp -implicitDefEqProofs only[↓reduceIte,go_sem,Nat.reduceLT,Nat.reduceEqDiff,t6,w1']
   refine⟨_,_,y,an.refl _ _,⟨by omega,by omega,⟨L1,rfl,hst1,lL1,all L1 lL1 hso1⟩,?_⟩,by omega⟩
   simp -implicitDefEqProofs only[↓reduceIte,go_sem,Nat.reduceLT,Nat.reduceEqDiff,reduceCtorEq,t0,t1,t2]
  ·have hso1:∀j,j<k+1→St.au (aW c) (St.ez y j Lk):=fun j hj=>by
    rcases Nat.lt_or_ge j k with h|h
    ·exact hso j h
    ·obtain rfl:j=k:=by omega
     have h1:=hso2 (2* j) (Nat.le_refl _)
     unfold St.ez at h1⊢
     rw[←ha2,List.take_of_length_le (by rw[List.length_drop];omega)]at h1
     rw[←ha,List.take_of_length_le (by rw[List.length_drop];omega)]
     exact h1
   simp -implicitDefEqProofs only[↓reduceIte,go_sem,Nat.reduceLT,Nat.reduceEqDiff,t1,t6,t7,w2,eq_false hmn,w1']
   refine⟨_,_,y,an.refl _ _,⟨by omega,by omega,⟨Lk,rfl,hst,hlen,all Lk hlen hso1⟩,?_⟩,by omega⟩
   simp -implicitDefEqProofs only[↓reduceIte,go_sem,Nat.reduceLT,Nat.reduceEqDiff,reduceCtorEq,t0,t1,t2]
 ·simp -implicitDefEqProofs only[↓reduceIte,go_sem,Nat.reduceLT,Nat.reduceEqDiff,t1,t6,eq_false hzn]
  have h0:=hbl 0
  unfold St.ez at h0
  rw[Nat.zero_mul,List.drop_zero,List.take_of_length_le (by omega)]at h0
  rw[←hE1,St.iL ho h0 hst]
  exact⟨_,an.refl _ _,rfl⟩
theorem lj(H:aa)(id ag:Nat)(hid:id<H.length)(g:FuncId)(caps:List AV)(c:ak→ak→Int)(ho:St.Ord (aW c))(hc:dJ g caps c H id)(n:Nat)(hbig:n≤100000000000)(L:List ak)(hn:L.length=n):
  ah Tryz.prog 252 [.sl id ag 0 n,.fn g caps] (aH H id ag L) (.ok (.bq [])) (aH H id ag (St.aG (aW c) L)):=by
 have gh:=cf hid ag L
 have hs:=iP H id ag hid g caps c ho hc n hbig L hn
 generalize aH H id ag L=E0 at*
 refine ah.aj (hint:=(fun _=>false)) Tryz.func252 (by kernel_rfl) rfl [] (by kernel_rfl) (by decide) (by simp[Tryz.ntmps252]) ?_
 rw[Tryz.ntmps252]
 simp -implicitDefEqProofs only[↓reduceIte,go_sem,Nat.reduceLT,Nat.reduceEqDiff,reduceCtorEq,gh]
 refine ab.ok hs ?_
 simp -implicitDefEqProofs only[go_sem]
 exact⟨_,an.refl _ _,rfl⟩
end SV
end Go.Proofs.YtggohfhfocgilaaGreat
namespace Go.Proofs.YtggohfhfocgilaaGreat
open Go.Proofs.YtggohfhfocgilaaGreatAw Go.RowKit
namespace SV
def HG(g:FuncId)(caps:List AV)(c:ak→ak→Bool)(H:aa)(id:Nat):Prop:=∀(o:aA) (x y:ak),ah Tryz.prog g ([.agg ((ak.enc x).map .d),.agg ((ak.enc y).map .d)]++caps) (H.set id o) (.ok (bA (c x y))) (H.set id o)
def nr:List D:=[iD 0,iD 0,.v (.string ⟨#[]⟩)]
def gm(H:aa)(id ag:Nat)(c:ak→ak→Bool)(L:List ak):aa:=H.set id (.arr 100 3 ag ((St.ay c L).map ak.enc++List.replicate (L.length-(St.ay c L).length) nr))
theorem fi(H:aa)(id ag:Nat)(c:ak→ak→Bool)(L:List ak)(h:St.ay c L=L):gm H id ag c L=aH H id ag L:=by
 unfold gm aH
 rw[h,Nat.sub_self,List.replicate_zero,List.append_nil]
theorem gV(H:aa)(id ag:Nat)(hid:id<H.length)(g:FuncId)(caps:List AV)(c:ak→ak→Bool)(hc:HG g caps c H id)(n:Nat)(hbig:n≤100000000000)(L:List ak)(hn:L.length=n):
  ah Tryz.prog 253 [.sl id ag 0 n,.fn g caps] (aH H id ag L) (.ok (.sl id ag 0 (St.ay c L).length)) (gm H id ag c L):=by
 have gh:=cf hid ag L
 have hcE:∀M:List ak,∀x y:ak,ah Tryz.prog g ([.agg ((ak.enc x).map .d),.agg ((ak.enc y).map .d)]++caps) (aH H id ag M) (.ok (bA (c x y))) (aH H id ag M):=fun M x y=>hc _ x y
 generalize hE1:gm H id ag c L=E1
 by_cases h2:n<2
 ·have hsame:St.ay c L=L:=by
   cases L with
   |nil=>rfl
   |cons x t=>
    cases t with
    |nil=>rfl
    |cons y t=>simp at hn;omega
  have he:aH H id ag L=E1:=by rw[←hE1,fi _ _ _ _ _ hsame]
  rw[hsame,hn]
  generalize aH H id ag L=E0 at*
  subst he
  refine ah.aj (hint:=(fun _=>false)) Tryz.func253 (by kernel_rfl) rfl [4] (by kernel_rfl) (by decide) (by simp[Tryz.ntmps253]) ?_
  rw[Tryz.ntmps253]
  simp -implicitDefEqProofs only[↓reduceIte,go_sem,Nat.reduceLT,reduceCtorEq,gh,show((n:Int)<2)=True from eq_true (by omega)]
  refine ao.aF ?_
  simp -implicitDefEqProofs only[↓reduceIte,go_sem,Nat.reduceLT]
 generalize hE0:aH H id ag L=E0 at gh
 refine ah.aj (hint:=(fun _=>false)) Tryz.func253 (by kernel_rfl) rfl [4] (by kernel_rfl) (by decide) (by simp[Tryz.ntmps253]) ?_
 rw[Tryz.ntmps253]
 simp -implicitDefEqProofs only[↓reduceIte,go_sem,Nat.reduceLT,reduceCtorEq,gh,show((n:Int)<2)=False from eq_false (by omega)]
 refine aP (fun k s H'=>H'=E0∧St.ay c (L.take (k+1))=L.take (k+1)∧s 0= .sl id ag 0 n∧s 1= .fn g caps∧s 5=iA ((k:Int)+1)) (n-1) (by omega) (an.refl _ _) ?_ ?_ ?_
 ·refine⟨rfl,?_,?_⟩
  ·cases L<;>rfl
  ·simp -implicitDefEqProofs only[↓reduceIte,go_sem,Nat.reduceLT,Nat.reduceEqDiff,Int.reduceAdd,reduceCtorEq]
 ·rintro k s H' hk hw ⟨rfl,hp,t0,t1,t5⟩
  obtain⟨q,hq⟩:∃q,q=k+1:=⟨_,rfl⟩
  obtain⟨x,hx⟩:∃x,L[q]?=some x:=⟨_,List.getElem?_eq_getElem (by omega)⟩
  obtain⟨y,hy⟩:∃y,L[k]?=some y:=⟨_,List.getElem?_eq_getElem (by omega)⟩
  have e1:L.take (q+1)=L.take q++[x]:=by rw[List.take_add_one,hx];rfl
  have hsn:St.ay c (L.take (q+1))=St.ay c (L.take q)++(if c x y=true then[]else[x]):=by
   rw[e1]
   exact St.ej (k:=k) (by rw[List.length_take];omega) (by rw[List.getElem?_take,if_pos (by omega)];exact hy)
  rw[←hq]at hp
  have f1:((k:Int)+1)=(q:Int):=by omega
  rw[f1]at t5
  have gx:=aD hx
  have gy:=aD hy
  have hd:=hcE L x y
  rw[hE0]at hd
  have w1:IntKind.i64.wrap ((q:Int)-1)=(k:Int):=by rw[wrap64_in _ (by omega) (by omega)];omega
  have w2:IntKind.i64.wrap ((q:Int)+1)=(q:Int)+1:=wrap64_in _ (by omega) (by omega)
  have hqn:q<n:=by omega
  have hkn:k<n:=by omega
  simp only[ak.enc]at gx gy
  try simp only[ak.enc,List.map_cons,List.map_nil]at hd
  simp -implicitDefEqProofs only[↓reduceIte,go_sem,Nat.reduceLT,Nat.reduceEqDiff,reduceCtorEq,t0,t5,gh,eq_true hqn]
  refine aR K.mixed (by kernel_rfl) ?_
  simp -implicitDefEqProofs only[↓reduceIte,go_sem,ae,Nat.reduceAdd,Nat.reduceLT,Nat.reduceEqDiff,reduceCtorEq,t0,t1,t5,gh,gx,gy,hqn,hkn,w1]
  refine ab.ok hd ?_
  cases hcc:c x y with
  |false=>
   rw[hcc]at hsn
   simp -implicitDefEqProofs only[↓reduceIte,go_sem,Nat.reduceLT,Nat.reduceEqDiff,t5,w2]
   refine cO.same ⟨rfl,?_,?_⟩
   ·rw[←hq,hsn,hp,e1];rfl
   ·simp -implicitDefEqProofs only[↓reduceIte,go_sem,Nat.reduceLT,Nat.reduceEqDiff,reduceCtorEq,t0,t1,show((k:Int)+1)=(q:Int) by omega]
  |true=>
   rw[hcc]at hsn
   have hsn2:St.ay c (L.take (q+1))=L.take q:=by rw[hsn,hp];simp
   simp -implicitDefEqProofs only[↓reduceIte,go_sem,Nat.reduceLT,Nat.reduceEqDiff,reduceCtorEq,t0,t5,gh]
   refine⟨by omega,.inr (by omega),?_⟩
   have hnq:((n:Int).toNat-q)=n-q:=by omega
   refine aP (fun k2 s H'=>(∃C K1,H'=aH H id ag C∧C=K1++L.drop K1.length∧K1=St.ay c (L.take (q+k2+1))∧K1.length≤q+k2∧s 5=iA K1.length)∧s 0= .sl id ag 0 n∧s 1= .fn g caps∧s 6= .sl id ag q (n-q)∧s 7=iA ((k2:Int)+1)) (n-q-1) (by omega) (an.refl _ _) ?_ ?_ ?_
   ·refine⟨⟨L,L.take q,hE0.symm,?_,?_,?_,?_⟩,?_⟩
    ·rw[List.length_take,Nat.min_eq_left (by omega),List.take_append_drop]
    ·rw[Nat.add_zero];exact hsn2.symm
    ·rw[List.length_take];omega
    ·rw[List.length_take,Nat.min_eq_left (by omega)];simp -implicitDefEqProofs only[↓reduceIte,go_sem,Nat.reduceEqDiff,t5]
    ·simp -implicitDefEqProofs only[↓reduceIte,go_sem,Nat.reduceLT,Nat.reduceEqDiff,Int.reduceAdd,reduceCtorEq,t0,t1]
   ·rintro k2 s H' hk2 hw3 ⟨⟨C,K1,rfl,hC,hK1,hKl,t5⟩,t0,t1,t6,t7⟩
    obtain⟨u,hu⟩:∃u,u=k2+1:=⟨_,rfl⟩
    obtain⟨v,hv⟩:∃v,v=q+u:=⟨_,rfl⟩
    obtain⟨x2,hx2⟩:∃x,L[v]?=some x:=⟨_,List.getElem?_eq_getElem (by omega)⟩
    obtain⟨y2,hy2⟩:∃y,L[v-1]?=some y:=⟨_,List.getElem?_eq_getElem (by omega)⟩
    have hCg:∀i,K1.length≤i→C[i]?=L[i]?:=fun i hi=>by
     rw[hC,List.getElem?_append_right hi,List.getElem?_drop,Nat.add_sub_cancel' hi]
    have hCl:C.length=n:=by rw[hC,List.length_append,List.length_drop];omega
    have e2:L.take (v+1)=L.take v++[x2]:=by rw[List.take_add_one,hx2];rfl
    have hsn3:St.ay c (L.take (v+1))=K1++(if c x2 y2=true then[]else[x2]):=by
     rw[e2,hK1,show q+k2+1=v by omega]
     exact St.ej (k:=v-1) (by rw[List.length_take];omega) (by rw[List.getElem?_take,if_pos (by omega)];exact hy2)
    have gx2:=aD ((hCg v (by omega)).trans hx2)
    have gy2:=aD ((hCg (v-1) (by omega)).trans hy2)
    have hd2:=hcE C x2 y2
    have gC:=cf hid ag C
    have f2:((k2:Int)+1)=(u:Int):=by omega
    rw[f2]at t7
    have w3:IntKind.i64.wrap ((u:Int)-1)=(k2:Int):=by rw[wrap64_in _ (by omega) (by omega)];omega
    have w4:IntKind.i64.wrap ((u:Int)+1)=(u:Int)+1:=wrap64_in _ (by omega) (by omega)
    have f3:q+u=v:=hv.symm
    have f4:q+k2=v-1:=by omega
    have hun:u<n-q:=by omega
    have hkn2:k2<n-q:=by omega
    simp only[ak.enc]at gx2 gy2
    try simp only[ak.enc,List.map_cons,List.map_nil]at hd2
    simp -implicitDefEqProofs only[↓reduceIte,go_sem,Nat.reduceLT,Nat.reduceEqDiff,t6,t7,gC,eq_true hun]
    refine aR K.mixed (by kernel_rfl) ?_
    simp -implicitDefEqProofs only[↓reduceIte,go_sem,ae,Nat.reduceAdd,Nat.reduceLT,Nat.reduceEqDiff,t1,t6,t7,gC,w3,hun,hkn2,f3,f4,gx2,gy2]
    refine ab.ok hd2 ?_
    cases hc2:c x2 y2 with
    |true=>
     rw[hc2]at hsn3
     simp -implicitDefEqProofs only[↓reduceIte,go_sem,Nat.reduceLT,Nat.reduceEqDiff,t7,w4]
     refine cO.same ⟨⟨C,K1,rfl,hC,?_,by omega,?_⟩,?_⟩
     ·rw[show q+(k2+1)+1=v+1 by omega,hsn3];simp
     ·simp -implicitDefEqProofs only[↓reduceIte,go_sem,Nat.reduceEqDiff,t5]
     ·simp -implicitDefEqProofs only[↓reduceIte,go_sem,Nat.reduceLT,Nat.reduceEqDiff,reduceCtorEq,t0,t1,t6,show((k2:Int)+1)=(u:Int) by omega]
    |false=>
     rw[hc2]at hsn3
     obtain⟨r,hr⟩:∃r,r=K1.length:=⟨_,rfl⟩
     rw[←hr]at t5
     have hrn:r<n:=by omega
     have w5:IntKind.i64.wrap ((r:Int)+1)=((r+1:Nat):Int):=by rw[wrap64_in _ (by omega) (by omega)];omega
     obtain⟨r2,hr2⟩:∃r2,r2=r+1:=⟨_,rfl⟩
     rw[←hr2]at w5
     have s1:=b8 C r x2
     obtain⟨z0,hz0⟩:∃z,C[r]?=some z:=⟨_,List.getElem?_eq_getElem (by omega)⟩
     have gz:=aD hz0
     simp only[ak.enc]at s1 gz
     simp -implicitDefEqProofs only[↓reduceIte,go_sem,ae,aw,Nat.reduceAdd,Nat.reduceLT,Nat.reduceEqDiff,reduceCtorEq,t0,t5,t6,t7,gC,hun,hrn,f3,gx2,gz,s1,dT,w4,w5]
     refine cO.same ⟨⟨C.set r x2,K1++[x2],by rw[←dp],?_,?_,?_,?_⟩,?_⟩
     ·have e3:L.drop r=L[r]'(by omega)::L.drop (r+1):=List.drop_eq_getElem_cons (by omega)
      rw[hC,←hr,e3,cg hr.symm];simp[hr]
     ·rw[show q+(k2+1)+1=v+1 by omega,hsn3];simp
     ·rw[List.length_append,List.length_singleton];omega
     ·simp -implicitDefEqProofs only[↓reduceIte,go_sem,Nat.reduceLT,Nat.reduceEqDiff,List.length_append,show((K1.length:Int)+1)=(r2:Int) by omega]
     ·simp -implicitDefEqProofs only[↓reduceIte,go_sem,Nat.reduceLT,Nat.reduceEqDiff,reduceCtorEq,t0,t1,t6,show((k2:Int)+1)=(u:Int) by omega]
   ·rintro s H' ⟨⟨C,K1,rfl,hC,hK1,hKl,t5⟩,t0,t1,t6,t7⟩
    have hK2:St.ay c L=K1:=by rw[hK1,List.take_of_length_le (by omega)]
    have hCl:C.length=n:=by rw[hC,List.length_append,List.length_drop];omega
    have gC:=cf hid ag C
    have hlt:((((n-q-1:Nat):Int)+1)<((n-q:Nat):Int))=False:=eq_false (by omega)
    obtain⟨r,hr⟩:∃r,r=K1.length:=⟨_,rfl⟩
    rw[←hr]at t5
    have hrn:((n:Int).toNat-r)=n-r:=by omega
    have hCt:C.take r=K1:=by rw[hC,hr,List.take_left]
    have hsr:bL (C.map ak.enc) r (eA (.agg #[.int .i64 0,.int .i64 0,.string ⟨#[]⟩]) (n-r))=(St.ay c L).map ak.enc++List.replicate (L.length-(St.ay c L).length) nr:=by
     unfold bL
     rw[←List.map_take,hCt,List.drop_of_length_le (by simp[eA];omega),List.append_nil,hK2,hn,←hr]
     rfl
    have hfo:H.set id (.arr 100 3 ag ((St.ay c L).map ak.enc++List.replicate (L.length-(St.ay c L).length) nr))=E1:=hE1
    have gE:E1[id]?=some (.arr 100 3 ag ((St.ay c L).map ak.enc++List.replicate (L.length-(St.ay c L).length) nr)):=by rw[←hfo];simp[hid]
    simp -implicitDefEqProofs only[↓reduceIte,go_sem,Nat.reduceAdd,Nat.reduceLT,Nat.reduceEqDiff,reduceCtorEq,t0,t5,t6,t7,gC,hlt]
    refine⟨by omega,.inr (by omega),?_⟩
    rw[hsr,dT,hfo]
    simp -implicitDefEqProofs only[↓reduceIte,go_sem,Nat.reduceLT,Int.reduceLE,Int.reduceToNat,gE]
    refine⟨by omega,.inl trivial,_,an.refl _ _,?_⟩
    simp -implicitDefEqProofs only[↓reduceIte,go_sem,Nat.reduceLT,hK2,←hr,Nat.sub_zero]
 ·rintro s H' ⟨rfl,hp,t0,t1,t5⟩
  have hsame:St.ay c L=L:=by rwa[show n-1+1=n by omega,←hn,List.take_length]at hp
  have he:H'=E1:=by rw[←hE1,fi _ _ _ _ _ hsame,hE0]
  simp -implicitDefEqProofs only[↓reduceIte,go_sem,Nat.reduceLT,Nat.reduceEqDiff,reduceCtorEq,t0,t5,gh,show(((n-1:Nat):Int)+1<(n:Int))=False from eq_false (by omega)]
  rw[←he,hsame,hn]
  refine ao.aF ?_
  simp -implicitDefEqProofs only[↓reduceIte,go_sem,Nat.reduceLT]
end SV
end Go.Proofs.YtggohfhfocgilaaGreat
namespace Go.Proofs.YtggohfhfocgilaaGreat
open Go.Proofs.YtggohfhfocgilaaGreatAw Go.RowKit
def Fe(a b:ak):Bool:=decide (aN a b=0)
theorem tU(a b:ak)(H:aa):ah Tryz.prog 254 [a.av,b.av] H (.ok (bA (Fe a b))) H:=by
 refine ah.aj (hint:=(fun _=>false)) Tryz.func254 (by kernel_rfl) rfl [4] (by kernel_rfl) (by decide) (by simp[Tryz.ntmps254]) ?_
 rw[Tryz.ntmps254]
 simp -implicitDefEqProofs only[↓reduceIte,go_sem,ae,Nat.reduceAdd,Nat.reduceLT,Nat.reduceEqDiff]
 refine ab.ok (cl a b _) ?_
 simp -implicitDefEqProofs only[↓reduceIte,go_sem,Nat.reduceLT]
 refine ao.ret ?_
 simp -implicitDefEqProofs only[↓reduceIte,go_sem,Nat.reduceLT,Fe]
theorem uK(l:List ak)(nn:Bool)(H:aa)(hl:l.length≤10000000000):ah Tryz.prog 229 [.d (.list nn (l.map ak.enc))] H (.ok (.d (.list false ((bO aN l).map ak.enc)))) H:=by
 have ho:St.Ord (SV.aW aN):=dP.ord
 obtain⟨H1,hH1⟩:∃H1,H1=H++[aA.arr 100 3 1 (l.map ak.enc)]:=⟨_,rfl⟩
 have hid:H.length<H1.length:=by rw[hH1];simp
 have e0:H1=SV.aH H1 H.length 1 l:=by
  unfold SV.aH
  rw[hH1];simp
 have hs:=SV.lj H1 H.length 1 hid 154 [] aN ho (fun o x y=>cl x y _) l.length (by omega) l rfl
 rw[←e0]at hs
 have hc:=SV.gV H1 H.length 1 hid 254 [] Fe (fun o x y=>tU x y _) l.length (by omega) (St.aG (SV.aW aN) l) (St.aX _)
 have hk:=SV.ec l nn H (by omega)
 rw[←hH1]at hk
 have hn:St.ay Fe (St.aG (SV.aW aN) l)=bO aN l:=rfl
 have hfin:SV.gm H1 H.length 1 Fe (St.aG (SV.aW aN) l)=H++[aA.arr 100 3 1 ((bO aN l).map ak.enc++List.replicate (l.length-(bO aN l).length) SV.nr)]:=by
  unfold SV.gm
  rw[hH1,St.aX,hn]
  simp
 refine ah.aj (hint:=(fun _=>false)) Tryz.func229 (by kernel_rfl) rfl [2] (by kernel_rfl) (by decide) (by simp[Tryz.ntmps229]) ?_
 rw[Tryz.ntmps229]
 simp -implicitDefEqProofs only[↓reduceIte,go_sem,Nat.reduceLT,reduceCtorEq]
 refine ab.ok hk ?_
 simp -implicitDefEqProofs only[↓reduceIte,go_sem,Nat.reduceLT]
 refine ab.ok hs ?_
 simp -implicitDefEqProofs only[↓reduceIte,go_sem,Nat.reduceLT,Nat.reduceEqDiff]
 refine ab.ok hc ?_
 rw[hfin]
 simp -implicitDefEqProofs only[↓reduceIte,go_sem,Nat.reduceLT,hn]
 refine ao.ret ?_
 have ht:((bO aN l).map ak.enc++List.replicate (l.length-(bO aN l).length) SV.nr).take (bO aN l).length=(bO aN l).map ak.enc:=by rw[List.take_left' (by simp)]
 simp -implicitDefEqProofs only[↓reduceIte,go_sem,Nat.reduceLT,ht]
def zG(W:List ak):Prop:=W.Pairwise (fun x y=>rP aN x y=true)
theorem zG.get{W:List ak}(h:zG W){i j:Nat}{x y:ak}(hx:W[i]?=some x)(hy:W[j]?=some y):aN x y<0↔i<j:=by
 have key:∀{i j:Nat} {x y:ak},W[i]?=some x→W[j]?=some y→i<j→aN x y<0:=by
  intro i j x y hx hy hij
  obtain⟨h1,rfl⟩:=List.getElem?_eq_some_iff.1 hx
  obtain⟨h2,rfl⟩:=List.getElem?_eq_some_iff.1 hy
  have:=List.pairwise_iff_getElem.1 h i j h1 h2 hij
  simpa[rP]using this
 constructor
 ·intro g
  rcases Nat.lt_trichotomy i j with h1|h1|h1
  ·exact h1
  ·subst h1
   rw[hx]at hy;cases hy
   have:=dP.self x
   omega
  ·have:=key hy hx h1
   have:=(dP.fg x y).1 g
   omega
 ·exact key hx hy
theorem zG.below{v:ak}:∀{W:List ak},zG W→∀{i:Nat} {y:ak},W[i]?=some y→(aN y v<0↔i<jq W v)
 |[],_,i,y,hy=>by simp at hy
 |x::t,h,i,y,hy=>by
  have h1:=List.pairwise_cons.1 h
  have hb:jq (x::t) v=jq t v+if aN x v<0 then 1 else 0:=by
   unfold jq
   rw[List.countP_cons]
   by_cases h:aN x v<0<;>simp[h]
  by_cases hx:aN x v<0
  ·rw[hb,if_pos hx]
   cases i with
   |zero=>
    simp at hy;subst hy
    simp[hx]
   |succ i=>
    have:=zG.below (v:=v) h1.2 (i:=i) (y:=y) (by simpa using hy)
    omega
  ·rw[hb,if_neg hx,Nat.add_zero]
   have hz:jq t v=0:=by
    unfold jq
    rw[List.countP_eq_zero]
    intro w hw
    have h2:=h1.1 w hw
    intro h3
    have h4:=dP.ord.trans h2 (show rP aN w v=true by simpa[rP]using h3)
    exact hx (by simpa[rP]using h4)
   rw[hz]
   refine⟨fun g=>?_,fun g=>by omega⟩
   exfalso
   cases i with
   |zero=>simp at hy;subst hy;exact hx g
   |succ i=>
    have hyt:y∈t:=List.mem_of_getElem? (i:=i) (by simpa using hy)
    have:0<jq t v:=by
     unfold jq
     rw[List.countP_pos_iff]
     exact⟨y,hyt,by simpa using g⟩
    omega
theorem vZ{W:List ak}{a:ak}(h:∃y∈W,aN y a=0):∃(i:Nat) (y:ak),cd W a=i∧W[i]?=some y∧aN y a=0:=by
 obtain⟨y,hy,hc⟩:=h
 have hany:W.any (fun w=>decide (aN w a=0))=true:=List.any_eq_true.2 ⟨y,hy,by simpa using hc⟩
 have hlt:W.findIdx (fun w=>decide (aN w a=0))<W.length:=List.findIdx_lt_length_of_exists ⟨y,hy,by simpa using hc⟩
 refine⟨W.findIdx (fun w=>decide (aN w a=0)),W[W.findIdx (fun w=>decide (aN w a=0))],?_,List.getElem?_eq_getElem hlt,?_⟩
 ·unfold cd jF
  rw[if_pos hany]
 ·have:=List.findIdx_getElem (w:=hlt)
  simpa using this
theorem mh{l:List ak}{a:ak}(h:a∈l):∃(i:Nat) (y:ak),cd (bO aN l) a=i∧(bO aN l)[i]?=some y∧aN y a=0:=by
 obtain⟨y,hy,hc⟩:=xG dP h
 exact vZ ⟨y,hy,(dP.zero a y).1 hc⟩
def mq(l:List ak)(a:ak):Nat:=(cd (bO aN l) a).toNat
theorem o9(l:List ak):ek (bO aN l) l=true:=by
 unfold ek
 rw[List.all_eq_true]
 intro a ha
 obtain⟨i,y,hi,_⟩:=mh ha
 rw[hi];simp
theorem qK(l:List ak):qS (bO aN l) l= .bq [.d (.list false (us (l.map (mq l)))),iA 0]:=by
 unfold qS uZ uL
 rw[o9]
 rfl
def ni(n:Nat):Nat:=c3 (n-1)
theorem BV{n:Nat}(h:n≤4096):ni n≤12:=(en _ 12).2 (by omega)
theorem Ag(n:Nat):fD [n]=c3 n:=by simp[fD]
theorem rV(n:Nat)(hn:n≤1000000000000)(H:aa):ah Tryz.prog 232 [iA n] H (.ok (iA (ni n))) H:=by
 have hw:=fun H=>nm [n-1] true H (by simp) (by intro x hx;simp at hx;omega)
 rw[Ag]at hw
 have m:max (IntKind.i64.wrap ((n:Int)-1)) 0=((n-1:Nat):Int):=by rw[wrap64_in _ (by omega) (by omega)];omega
 have u:=cM (n-1) (by omega)
 have hus:us [n-1]=[[.v (.int .u64 ((n-1:Nat):Int))]]:=rfl
 rw[hus]at hw
 unfold ni
 generalize ((n-1:Nat):Int)=q at*
 generalize c3 (n-1)=r at*
 refine ah.aj (hint:=(fun _=>false)) Tryz.func232 (by kernel_rfl) rfl [2] (by kernel_rfl) (by decide) (by simp[Tryz.ntmps232]) ?_
 rw[Tryz.ntmps232]
 simp -implicitDefEqProofs only[↓reduceIte,go_sem,Nat.reduceLT,Nat.reduceLeDiff,reduceCtorEq,m,u,List.foldl_cons,List.foldl_nil]
 refine ab.ok (hw _) ?_
 simp -implicitDefEqProofs only[↓reduceIte,go_sem,Nat.reduceLT]
 refine ao.aF ?_
 simp -implicitDefEqProofs only[↓reduceIte,go_sem,Nat.reduceLT]
def bX(W:List ak):List Nat:=W.flatMap gB
theorem fQ(W:List ak)(v:ak):bX (W++[v])=bX W++gB v:=by simp[bX]
def Ai(l:List ak):List Nat:=cA (bO aN l).length++bX (bO aN l)++fb (l.map (mq l)) (ni (bO aN l).length)
def nO(l:List ak)(k:Int):List Nat:=if bg l k=0 then Ai l else[]
theorem j7{l:List ak}{k:Int}(h:bg l k=0):∀v∈l,eL v=true:=by
 unfold bg at h
 intro v hv
 by_cases h1:l.any (fun v=> !eL v)=true
 ·rw[if_pos h1]at h
  repeat' split at h
  all_goals omega
 ·have h2:l.any (fun v=> !eL v)=false:=by simpa using h1
  have:=List.any_eq_false.1 h2 v hv
  simpa using this
theorem A6{l:List ak}{a:ak}(h:a∈l):mq l a<(bO aN l).length:=by
 obtain⟨i,y,h1,h2,_⟩:=mh h
 unfold mq
 rw[h1]
 have:=(List.getElem?_eq_some_iff.1 h2).1
 omega
theorem x8(l:List ak):(bO aN l).length≤l.length:=by
 have h:=St.rF (eq:=fun a b=>decide (aN a b=0)) (St.aG (rP aN) l)
 rwa[St.aX]at h
theorem yq{l:List ak}:∀n∈l.map (mq l),n<2^ni (bO aN l).length:=fun n hn=>by
 obtain⟨a,ha,rfl⟩:=List.mem_map.1 hn
 have h1:=A6 ha
 have h2:=(en ((bO aN l).length-1) (ni (bO aN l).length)).1 (Nat.le_refl _)
 omega
theorem iR{v:ak}(hi:-9223372036854775808≤v.i∧v.i≤9223372036854775807)(hm:eL v=true):(gB v).length≤1035:=by
 unfold gB
 have hz:=mU hi.1 hi.2
 by_cases h1:v.kind=1
 ·rw[if_pos h1];have:=eu 10 (jt v.i) (by omega);omega
 rw[if_neg h1]
 by_cases h2:v.kind=2
 ·rw[if_pos h2,kF];omega
 rw[if_neg h2]
 by_cases h3:v.kind=3
 ·rw[if_pos h3]
  have hs:=uk hm h3
  have:=eu 10 v.s.size (by omega)
  rw[r6,List.length_append,m5]
  omega
 ·rw[if_neg h3];simp
theorem mY(l:List ak)(k:Int)(hok:∀v∈l,fV v.i)(H:aa)(hl:l.length≤1000000000000):
  ah Tryz.prog 199 [.d (.list false (l.map ak.enc)),iA k] H (.ok (.bq [.d (.list false (dx (nO l k))),iA (bg l k)])) H:=by
 by_cases hp:bg l k=0
 ·have hd:nO l k=Ai l:=by unfold nO;rw[if_pos hp]
  have hmay:=j7 hp
  have h4:=gM hp
  have hwl:=x8 l
  have hW:∀w∈bO aN l,w∈l:=fun w hw=>xN dP hw
  have hcf:=yq (l:=l)
  have hcd:=fun H=>uT (bO aN l) l false false H (by omega) (by omega)
  have hwd:=fun H=>uK l false H (by omega)
  rw[qK]at hcd
  have hB:Ai l=cA (bO aN l).length++bX (bO aN l)++fb (l.map (mq l)) (ni (bO aN l).length):=rfl
  have hcl:(l.map (mq l)).length=l.length:=by simp
  rw[hd,hp]
  generalize l.map (mq l)=C at*
  generalize bO aN l=W at*
  have hpk:=fb
  have hwid:=BV (n:=W.length) (by omega)
  have l1:=eu 10 W.length (by omega)
  have hWb:∀k,k≤W.length→(bX (W.take k)).length≤k* 1035:=by
   intro k
   induction k with
   |zero=>intro _;simp[bX]
   |succ k ih=>
    intro hk
    have hk':k<W.length:=by omega
    rw[List.take_succ_eq_append_getElem hk',fQ,List.length_append]
    have h1:=ih (by omega)
    have hm:=hW _ (List.getElem_mem hk')
    have h2:=iR (hok _ hm) (hmay _ hm)
    omega
  refine ah.aj (hint:=(fun _=>false)) Tryz.func199 (by kernel_rfl) rfl [4,5] (by kernel_rfl) (by decide) (by simp[Tryz.ntmps199]) ?_
  rw[Tryz.ntmps199]
  simp -implicitDefEqProofs only[↓reduceIte,go_sem,Nat.reduceLT,Nat.reduceEqDiff,reduceCtorEq]
  refine ab.ok (db l k false _ (by omega)) ?_
  rw[hp]
  simp -implicitDefEqProofs only[↓reduceIte,go_sem,Nat.reduceLT,reduceCtorEq]
  refine ab.ok (hwd _) ?_
  simp -implicitDefEqProofs only[↓reduceIte,go_sem,Nat.reduceLT,List.length_map,cM W.length (by omega)]
  refine ab.ok (fO W.length (by omega) _) ?_
  simp -implicitDefEqProofs only[↓reduceIte,go_sem,Nat.reduceLT,Nat.reduceEqDiff,List.length_map]
  refine bf (fun j s H'=>∃ag,H'=H++[.arr 5 1 ag (dx (cA W.length++bX (W.take j)))]∧s 0= .d (.list false (l.map ak.enc))∧s 7= .d (.list false (W.map ak.enc))∧s 8= .sl H.length ag 0 (cA W.length++bX (W.take j)).length∧s 29= .d (.list false (W.map ak.enc))∧s 30=iA W.length∧s 31=iA j) W.length (by omega) (an.refl _ _) ?_ ?_ ?_
  ·refine⟨(cA W.length).length,?_,?_⟩
   ·rw[show bX (W.take 0)=[]from rfl,List.append_nil]
   ·rw[show bX (W.take 0)=[]from rfl,List.append_nil]
    simp -implicitDefEqProofs only[↓reduceIte,go_sem,Nat.reduceLT,Nat.reduceEqDiff,reduceCtorEq]
  ·rintro j s H' hj hw ⟨ag,rfl,t0,t7,t8,t29,t30,t31⟩
   have hx:=List.getElem?_eq_getElem hj
   have hm:=hW _ (List.getElem_mem hj)
   have hb:=hWb j (by omega)
   have hvl:=iR (hok _ hm) (hmay _ hm)
   have e1:cA W.length++bX (W.take (j+1))=(cA W.length++bX (W.take j))++gB W[j]:=by rw[List.take_succ_eq_append_getElem hj,fQ,List.append_assoc]
   have hvd:=fun H=>fW W[j] (hok _ hm) (hmay _ hm) H
   rw[e1]
   have hBl:(cA W.length++bX (W.take j)).length≤11+j* 1035:=by rw[List.length_append];omega
   generalize cA W.length++bX (W.take j)=B at*
   generalize W[j]=w at*
   simp -implicitDefEqProofs only[↓reduceIte,go_sem,ae,aw,Nat.reduceAdd,Nat.reduceLT,Nat.reduceEqDiff,t29,t30,t31,hj,hx,ak.enc]
   refine ab.ok (hvd _) ?_
   simp -implicitDefEqProofs only[↓reduceIte,go_sem,Nat.reduceLT,Nat.reduceEqDiff,t8,fM,bK,gQ]
   refine⟨by omega,by omega,?_⟩
   simp -implicitDefEqProofs only[↓reduceIte,go_sem,Nat.reduceLT,t31]
   refine cO.cut [.arr 5 1 (ag+1) (dx (B++gB w))] [.box 100 3 0 1 [iA w.kind,iA w.i,sA w.s]] 1 rfl rfl (by simp -implicitDefEqProofs only[go_sem]) ?_
   refine⟨ag+1,rfl,?_⟩
   simp -implicitDefEqProofs only[↓reduceIte,go_sem,Nat.reduceLT,Nat.reduceEqDiff,reduceCtorEq,t0,t7,t29,t30,hw]
  ·rintro s H' ⟨ag,rfl,t0,t7,t8,t29,t30,t31⟩
   rw[show W.take W.length=W from List.take_length]at*
   have hb:=hWb W.length (Nat.le_refl _)
   rw[List.take_length]at hb
   have l3:(fb C (ni W.length)).length≤100000:=by
    rw[fb,gp,jA]
    have:C.length* ni W.length≤4096* 12:=Nat.mul_le_mul (by omega) hwid
    omega
   have l4:(cA W.length++bX W).length≤11+4096* 1035:=by rw[List.length_append];omega
   simp -implicitDefEqProofs only[↓reduceIte,go_sem,Nat.reduceLT,Nat.reduceEqDiff,reduceCtorEq,t0,t7,t30,t31]
   refine ab.ok (hcd _) ?_
   simp -implicitDefEqProofs only[↓reduceIte,go_sem,Nat.reduceLT,Nat.reduceEqDiff,t7,List.length_map]
   refine ab.ok (rV W.length (by omega) _) ?_
   simp -implicitDefEqProofs only[↓reduceIte,go_sem,Nat.reduceLT,Nat.reduceEqDiff]
   refine ab.ok (po C (ni W.length) (by omega) hcf (by omega) false _) ?_
   rw[hB]
   generalize fb C (ni W.length)=Z at*
   generalize cA W.length++bX W=B at*
   simp -implicitDefEqProofs only[↓reduceIte,go_sem,Nat.reduceLT,Nat.reduceEqDiff,t8,fM,bK,gQ]
   refine⟨by omega,by omega,ao.ret ?_⟩
   have ht:(dx (B++Z)).take (B.length+Z.length)=dx (B++Z):=List.take_of_length_le (by rw[bK,List.length_append];omega)
   simp -implicitDefEqProofs only[↓reduceIte,go_sem,Nat.reduceLT,Nat.reduceEqDiff,ht]
 ·have hd:nO l k=[]:=by unfold nO;rw[if_neg hp]
  rw[hd]
  refine ah.jW (cs:=[.d (.v (.slice none 0 0)),iA (bg l k)]) ?_ (.cons .nil (.cons (.refl _) .nil))
  refine ah.aj (hint:=(fun _=>false)) Tryz.func199 (by kernel_rfl) rfl [4,5] (by kernel_rfl) (by decide) (by simp[Tryz.ntmps199]) ?_
  rw[Tryz.ntmps199]
  simp -implicitDefEqProofs only[↓reduceIte,go_sem,Nat.reduceLT,Nat.reduceEqDiff,reduceCtorEq]
  refine ab.ok (db l k false _ (by omega)) ?_
  simp -implicitDefEqProofs only[↓reduceIte,go_sem,Nat.reduceLT,Nat.reduceEqDiff,hp]
  refine ao.aF ?_
  simp -implicitDefEqProofs only[↓reduceIte,go_sem,Nat.reduceLT,Nat.reduceEqDiff]
end Go.Proofs.YtggohfhfocgilaaGreat
namespace Go.Proofs.YtggohfhfocgilaaGreatAw
open Go.RowKit
def Fy(v:Value):FrameMode:= .panicking [{v:=v,recovered:=false}]
def G2(v:Value):FrameMode:= .panicking [{v:=v,recovered:=true}]
inductive Mode:FrameMode→Value→FrameMode→Prop
 |ret:Mode .returning .nilIface .returning
 |HQ (v:Value):Mode (Fy v) v (G2 v)
def CO(P:Program)(f:FuncId)(args:List AV)(H:aa)(u:FrameMode)(H':aa)(u':FrameMode):Prop:=
 ∀φ N w vals,Rel H φ N w→oG H φ N w args vals→(callFunc f vals).run P w= .ok (.enter f vals) w∧
  CallsD P f vals u w fun e u1 w'=>(∃v,e= .returned v)∧u1=u'∧∃φ' N',Rel H' φ' N' w'∧ar H φ N w H' φ' N' w'
theorem oG.since{H H':aa}{φ φ':aI}{N N':Addr→Prop}{w w':World}{args:List AV}{vals:Array Value}(h:oG H φ N w args vals)(hR:Rel H φ N w)(hS:ar H φ N w H' φ' N' w'):oG H' φ' N' w' args vals:=
 ⟨h.1,fun i h1 h2=>(h.2 i h1 h2).since hR hS⟩
theorem CO.aj{P:Program}{hint:Nat→Bool}{f:FuncId}{fn:Func}{id:Nat}{o0 o1:Oper}{rest:Code}{d0 d1:Tmp}(hf:P.funcs[f]?=some fn)(hn:(fn.name== "runtime.NumGoroutine")=false)(hb:fn.body=some (.seq (.region id #[o0,o1] false) rest))
  (h0:∃ats,o0.op= .call {callee:= .builtin .recover,args:=#[],argTypes:=ats}) (g0:o0.guard=none) (e0:o0.dst=some d0) (h1:o1.op= .assign (.tmp d0)) (g1:o1.guard=none) (e1:o1.dst=some d1) (hl:d0<fn.ntmps) (hr:fn.results=#[])
  {args:List AV} {H H':aa} {u u':FrameMode} {v:Value} (ha:args.length≤fn.ntmps) (hm:Mode u v u')
  (h:cq P hint fn.ntmps H rest (fun e s H1=>(match e with| .normal| .ret=>True|_=>False)∧∃s',an H s H1 s' H') (bl fn.ntmps (bl fn.ntmps (ji args) (some d0) (bN v)) (some d1) (bN v)) H) (hmk:hint 2000000=false:=by rfl):CO P f args H u H' u':=by
 intro φ N w vals hR hA
 refine⟨fa hf hn (by rw[hb];rfl) vals w,callsD_of_wpS hf hb fun c0 cs hc0=>wpS_seq (wpS_region ?_)⟩
 have hI:Inv H φ N w fn.ntmps ⟨false,[]⟩ (bl fn.ntmps (bl fn.ntmps (ji args) (some d0) (bN v)) (some d1) (bN v)) H φ N (({tmps:=vals++Array.replicate (fn.ntmps-vals.size) undef,defers:=[]}:Act).put (some d0) v|>.put (some d1) v) w:=by
  have h:Inv H φ N w fn.ntmps ⟨false,[]⟩ (ji args) H φ N {tmps:=vals++Array.replicate (fn.ntmps-vals.size) undef,defers:=[]} w:=
   ⟨hR,hA.init _,ar.refl,by simp;have:=hA.1;omega,gW.refl⟩
  exact(h.put hR ar.refl (df v) (some d0)).put hR ar.refl (df v) (some d1)
 have hrec:∃cs',(match recoverD (c0::cs)with|some (x,cs')=>(x,cs')|none=>(Value.nilIface,c0::cs))=(v,cs')∧cs'={c0 with mode:=u'}::cs:=by
  subst hc0
  generalize hu:c0.mode=u at hm
  cases hm with
  |ret=>exact⟨c0::cs,by simp[recoverD,hu],by rw[←hu]⟩
  |HQ v=>exact⟨_,by simp[recoverD,hu,Fy];rfl,rfl⟩
 obtain⟨cs',hrec,hcs⟩:=hrec
 have hwp:=C9 (fun e=>by rw[hmk]at e;cases e) hR rest _ hI h
 let R:Ending→FrameMode→World→Prop:=fun e u1 w'=>(∃v,e= .returned v)∧u1=u'∧∃φ' N',Rel H' φ' N' w'∧ar H φ N w H' φ' N' w'
 have hS:Code.wpS P rest (bodyPostS P fn c0 cs R) ((({tmps:=vals++Array.replicate (fn.ntmps-vals.size) undef,defers:=[]}:Act).put (some d0) v).put (some d1) v) cs' w:=by
  refine wpS_of_wp (wp_mono hwp ?_)
  rintro e a' w' ⟨ax,s',H1,φ1,N1,rfl,⟨hq,s'',hW⟩,hI1⟩
  obtain⟨φ2,N2,hI2⟩:=hW.ok hR hI1
  have fin:a'.defers=[]∧∃u1,cs'={c0 with mode:=u1}::cs∧∃v,(results fn a'.tmps).run P w'= .ok v w'∧R (.returned v) u1 w':=
   ⟨hI2.defers.eq,u',hcs,_,jd [] (by rw[hr];rfl) (by simp) _ _,⟨_,rfl⟩,rfl,φ2,N2,hI2.rel,hI2.since⟩
  cases ax with
  |normal=>exact fin
  |ret=>exact fin
  |exit i=>exact hq.elim
  |panic v=>exact hq.elim
 have tail:wpOpsS P #[o0,o1] (Exit.thenS (Code.wpS P rest (bodyPostS P fn c0 cs R)) (bodyPostS P fn c0 cs R)) [1]
   (({tmps:=vals++Array.replicate (fn.ntmps-vals.size) undef,defers:=[]}:Act).put (some d0) v) cs' w:=by
  have hev:(({tmps:=vals++Array.replicate (fn.ntmps-vals.size) undef,defers:=[]}:Act).put (some d0) v).eval (.tmp d0)=v:=by
   have:d0<vals.size+(fn.ntmps-vals.size):=Nat.lt_of_lt_of_le hl (by omega)
   simp[Act.eval,Act.put,this]
  have hx:(execOp (({tmps:=vals++Array.replicate (fn.ntmps-vals.size) undef,defers:=[]}:Act).put (some d0) v).eval o1).run P w= .ok (.value v) w:=by
   simp only[execOp,h1,hev];rfl
  have hw:Region.wanted o1 (yielded #[o0,o1] (({tmps:=vals++Array.replicate (fn.ntmps-vals.size) undef,defers:=[]}:Act).put (some d0) v).tmps)=true:=by simp[Region.wanted,g1]
  simp only[wpOpsS,List.getElem?_toArray,List.getElem?_cons_succ,List.getElem?_cons_zero,hw,if_true,hx,Oper.upon,e1]
  exact hS
 obtain⟨ats,h0⟩:=h0
 have hx:(execOp (({tmps:=vals++Array.replicate (fn.ntmps-vals.size) undef,defers:=[]}:Act)).eval o0).run P w= .ok .recover w:=by
  simp only[execOp,h0,resolve,invoke]
  rfl
 have hw:Region.wanted o0 (yielded #[o0,o1] (({tmps:=vals++Array.replicate (fn.ntmps-vals.size) undef,defers:=[]}:Act)).tmps)=true:=by simp[Region.wanted,g0]
 show wpOpsS P #[o0,o1] _ [0,1] _ _ _
 unfold wpOpsS
 simp only[List.getElem?_toArray,List.getElem?_cons_zero,hw,if_true,hx,e0]
 revert hrec
 cases recoverD (c0::cs)with
 |none=>
  intro hrec
  have e1:Value.nilIface=v:=congrArg Prod.fst hrec
  have e2:c0::cs=cs':=congrArg Prod.snd hrec
  simp only[e1,e2]
  exact tail
 |some p=>
  intro hrec
  have e1:p.1=v:=congrArg Prod.fst hrec
  have e2:p.2=cs':=congrArg Prod.snd hrec
  simp only[e1,e2]
  exact tail
end Go.Proofs.YtggohfhfocgilaaGreatAw
namespace Go.Proofs.YtggohfhfocgilaaGreat
open Go.Proofs.YtggohfhfocgilaaGreatAw Go.RowKit
def zV:ak:=⟨0,0,iv⟩
def CQ(W:List ak):Prop:=∀i x y,W[i]?=some x→W[i+1]?=some y→aN x y<0
noncomputable instance CQ.dec (W:List ak):Decidable (CQ W):=Classical.propDecidable _
def oD(l:List ak)(k:Int):List Nat:=if bg l k=0 then bX l else[]
theorem xE{l:List ak}(hok:∀v∈l,fV v.i)(hm:∀v∈l,eL v=true):∀k,k≤l.length→(bX (l.take k)).length≤k* 1035:=by
 intro k
 induction k with
 |zero=>intro _;simp[bX]
 |succ k ih=>
  intro hk
  have hk':k<l.length:=by omega
  rw[List.take_succ_eq_append_getElem hk',fQ,List.length_append]
  have h1:=ih (by omega)
  have h2:=iR (hok _ (List.getElem_mem hk')) (hm _ (List.getElem_mem hk'))
  omega
theorem mI(l:List ak)(k:Int)(hok:∀v∈l,fV v.i)(H:aa)(hl:l.length≤1000000000000):
  ah Tryz.prog 191 [.d (.list false (l.map ak.enc)),iA k] H (.ok (.bq [.d (.list false (dx (oD l k))),iA (bg l k)])) H:=by
 by_cases hp:bg l k=0
 ·rw[show oD l k=bX l from if_pos hp]
  have hmay:=j7 hp
  have h4:=gM hp
  have hWb:=xE hok hmay
  refine ah.aj (hint:=(fun _=>false)) Tryz.func191 (by kernel_rfl) rfl [4,5] (by kernel_rfl) (by decide) (by simp[Tryz.ntmps191]) ?_
  rw[Tryz.ntmps191]
  simp -implicitDefEqProofs only[↓reduceIte,go_sem,Nat.reduceLT,Nat.reduceEqDiff,reduceCtorEq]
  refine ab.ok (db l k false _ (by omega)) ?_
  rw[hp]
  simp -implicitDefEqProofs only[↓reduceIte,go_sem,Nat.reduceLT,reduceCtorEq]
  refine bf (fun j s H'=>∃ag,H'=H++[.arr 5 1 ag (dx (bX (l.take j)))]∧s 7= .sl H.length ag 0 (bX (l.take j)).length∧s 18= .d (.list false (l.map ak.enc))∧s 19=iA l.length∧s 20=iA j) l.length (by omega) (an.fy _ _ 7 5 1 (by decide) (by simp -implicitDefEqProofs only[↓reduceIte,go_sem,Nat.reduceLT,Nat.reduceEqDiff]) _) ?_ ?_ ?_
  ·refine⟨0,rfl,?_⟩
   simp -implicitDefEqProofs only[↓reduceIte,go_sem,Nat.reduceLT,Nat.reduceEqDiff]
   rfl
  ·rintro j s H' hj hw ⟨ag,rfl,t7,t18,t19,t20⟩
   have hx:=List.getElem?_eq_getElem hj
   have hm:=List.getElem_mem hj
   have hb:=hWb j (by omega)
   have hvl:=iR (hok _ hm) (hmay _ hm)
   have e1:bX (l.take (j+1))=bX (l.take j)++gB l[j]:=by rw[List.take_succ_eq_append_getElem hj,fQ]
   have hvd:=fun H=>fW l[j] (hok _ hm) (hmay _ hm) H
   rw[e1]
   generalize bX (l.take j)=B at*
   generalize l[j]=w at*
   simp -implicitDefEqProofs only[↓reduceIte,go_sem,ae,aw,Nat.reduceAdd,Nat.reduceLT,Nat.reduceEqDiff,t18,t19,t20,hj,hx,ak.enc]
   refine ab.ok (hvd _) ?_
   simp -implicitDefEqProofs only[↓reduceIte,go_sem,Nat.reduceLT,Nat.reduceEqDiff,t7,fM,bK,gQ]
   refine⟨by omega,by omega,?_⟩
   simp -implicitDefEqProofs only[↓reduceIte,go_sem,Nat.reduceLT,t20]
   refine cO.cut [.arr 5 1 (ag+1) (dx (B++gB w))] [.box 100 3 0 1 [iA w.kind,iA w.i,sA w.s]] 1 rfl rfl (by simp -implicitDefEqProofs only[go_sem]) ?_
   refine⟨ag+1,rfl,?_⟩
   simp -implicitDefEqProofs only[↓reduceIte,go_sem,Nat.reduceLT,Nat.reduceEqDiff,t18,t19,hw]
  ·rintro s H' ⟨ag,rfl,t7,t18,t19,t20⟩
   rw[show l.take l.length=l from List.take_length]at*
   simp -implicitDefEqProofs only[↓reduceIte,go_sem,Nat.reduceLT,Nat.reduceEqDiff,t7,t19,t20]
   refine ao.ret ?_
   simp -implicitDefEqProofs only[↓reduceIte,go_sem,Nat.reduceLT,Nat.reduceEqDiff,List.take_of_length_le (Nat.le_of_eq (bK (bX l)))]
 ·rw[show oD l k=[]from if_neg hp]
  refine ah.jW (cs:=[.d (.v (.slice none 0 0)),iA (bg l k)]) ?_ (.cons .nil (.cons (.refl _) .nil))
  refine ah.aj (hint:=(fun _=>false)) Tryz.func191 (by kernel_rfl) rfl [4,5] (by kernel_rfl) (by decide) (by simp[Tryz.ntmps191]) ?_
  rw[Tryz.ntmps191]
  simp -implicitDefEqProofs only[↓reduceIte,go_sem,Nat.reduceLT,Nat.reduceEqDiff,reduceCtorEq]
  refine ab.ok (db l k false _ (by omega)) ?_
  simp -implicitDefEqProofs only[↓reduceIte,go_sem,Nat.reduceLT,Nat.reduceEqDiff,hp]
  refine ao.aF ?_
  simp -implicitDefEqProofs only[↓reduceIte,go_sem,Nat.reduceLT,Nat.reduceEqDiff]
def kB(k:Int):aA:= .box 3 1 0 1 [iA k]
def iF(r:Nat×ak):List D:=[.v (.int .i64 r.1),.v (.int .i64 r.2.kind),.v (.int .i64 r.2.i),.v (.string r.2.s)]
def xH(r:Nat×ak):AV:= .agg [iA r.1,iA r.2.kind,iA r.2.i,sA r.2.s]
def zR:Nat×ak:=(0,zV)
def dg(R:List (Nat×ak)):Nat×ak:=R.getLast?.getD zR
def gD(R:List (Nat×ak))(v:ak):List (Nat×ak):=if R≠[]∧(dg R).2=v then R.dropLast++[((dg R).1+1,v)]else R++[(1,v)]
def dW(l:List ak):List (Nat×ak):=l.foldl gD []
theorem jX(l:List ak)(k:Nat)(h:k<l.length):dW (l.take (k+1))=gD (dW (l.take k)) l[k]:=by
 unfold dW
 rw[List.take_succ_eq_append_getElem h,List.foldl_append];rfl
theorem Af(R:List (Nat×ak))(v:ak):(gD R v).length≤R.length+1:=by
 unfold gD
 split
 ·rw[List.length_append,List.length_dropLast,List.length_singleton];omega
 ·simp
theorem py(l:List ak):∀k,(dW (l.take k)).length≤k:=by
 intro k
 induction k with
 |zero=>simp[dW]
 |succ k ih=>
  rcases Nat.lt_or_ge k l.length with h|h
  ·rw[jX l k h]
   have:=Af (dW (l.take k)) l[k]
   omega
  ·rw[List.take_of_length_le (by omega)]
   rw[List.take_of_length_le h]at ih
   omega
theorem Aj{R:List (Nat×ak)}{k:Nat}(h:∀r∈R,r.1≤k)(v:ak):∀r∈gD R v,r.1≤k+1:=by
 intro r hr
 unfold gD at hr
 split at hr
 ·rename_i hc
  rcases List.mem_append.1 hr with hr|hr
  ·have:=h r (List.dropLast_subset R hr);omega
  ·simp at hr
   have hm:dg R∈R:=by
    unfold dg
    rw[List.getLast?_eq_getElem?]
    have hp:0<R.length:=List.length_pos_iff.2 hc.1
    rw[List.getElem?_eq_getElem (by omega)]
    exact List.getElem_mem _
   have:=h _ hm
   rw[hr];simp only;omega
 ·rcases List.mem_append.1 hr with hr|hr
  ·have:=h r hr;omega
  ·simp at hr;rw[hr];simp
theorem pv(l:List ak):∀k,∀r∈dW (l.take k),r.1≤k:=by
 intro k
 induction k with
 |zero=>intro r hr;simp[dW]at hr
 |succ k ih=>
  rcases Nat.lt_or_ge k l.length with h|h
  ·rw[jX l k h]
   exact Aj ih _
  ·rw[List.take_of_length_le (by omega)]
   rw[List.take_of_length_le h]at ih
   intro r hr
   have:=ih r hr;omega
theorem yR(R:List (Nat×ak))(G:aa)(id ag:Nat)(hl:R.length≤1000000000000)(h:G[id]?=some (.arr 287 4 ag (R.map iF))):
  ah Tryz.prog 249 [.sl id ag 0 R.length] G (.ok (.bq [xH (dg R),bA (decide (R≠[]))])) G:=by
 have hlt:=al h
 refine ah.cG (hint:=fun _=>false) Tryz.func249 (by kernel_rfl) rfl [.cell 2 287,.tmp 3] (by kernel_rfl) (by simp[Tryz.ntmps249]) ?_
 rw[Tryz.ntmps249]
 by_cases h0:R=[]
 ·subst h0
  simp only[List.length_nil,List.map_nil]at h⊢
  simp -implicitDefEqProofs only[↓reduceIte,go_sem,ae,aw,Nat.reduceAdd,Nat.reduceLT,Nat.reduceEqDiff,reduceCtorEq,h,List.getElem?_append_left hlt,List.length_nil]
  refine cY.ret ?_
  simp -implicitDefEqProofs only[↓reduceIte,go_sem,ae,Nat.reduceAdd,Nat.reduceLT,Nat.reduceLeDiff,Nat.reduceEqDiff,bR,cZ,xH,dg,zR,zV,iv,List.getLast?_nil,Option.getD_none]
 ·have hpos:0<R.length:=List.length_pos_iff.2 h0
  obtain⟨n,hn⟩:∃n,R.length=n+1:=⟨R.length-1,by omega⟩
  have hget:R[n]?=some (dg R):=by
   unfold dg
   rw[List.getLast?_eq_getElem?,hn,Nat.add_sub_cancel,List.getElem?_eq_getElem (by omega)]
   rfl
  generalize hm:R.length=m at*
  have hw:IntKind.i64.wrap ((m:Int)-1)=(n:Int):=by rw[wrap64_in _ (by omega) (by omega)];omega
  generalize dg R=q at*
  simp -implicitDefEqProofs only[↓reduceIte,go_sem,ae,aw,Nat.reduceAdd,Nat.reduceLT,Nat.reduceEqDiff,reduceCtorEq,h,List.getElem?_append_left hlt,hw,hget,show((m:Int)=0)=False from eq_false (by omega),show((n:Int)<(m:Int))=True from eq_true (by omega),show((0:Int)≤(n:Int))=True from eq_true (by omega),Option.map_some,iF,List.take_succ_cons,List.take_zero,List.map_cons,List.map_nil,List.length_cons,List.length_nil]
  refine cY.ret ?_
  simp -implicitDefEqProofs only[↓reduceIte,go_sem,ae,Nat.reduceAdd,Nat.reduceLT,Nat.reduceLeDiff,Nat.reduceEqDiff,bR,cZ,xH,h0,not_false_eq_true,decide_true]
theorem Ah{R:List (Nat×ak)}{v:ak}(h:¬(R≠[]∧(dg R).2=v)):(gD R v).map iF=R.map iF++[[.v (.int .i64 1),.v (.int .i64 v.kind),.v (.int .i64 v.i),.v (.string v.s)]]:=by
 unfold gD
 rw[if_neg h]
 simp[iF]
theorem Bw{R:List (Nat×ak)}{v:ak}{n:Nat}(h:R≠[]∧(dg R).2=v)(hn:R.length=n+1):R[n]?=some (dg R)∧
  (R.map iF).set n [.v (.int .i64 (((dg R).1+1:Nat):Int)),.v (.int .i64 v.kind),.v (.int .i64 v.i),.v (.string v.s)]=(gD R v).map iF∧(gD R v).length=n+1:=by
 have hg:R[n]?=some (dg R):=by
  unfold dg
  rw[List.getLast?_eq_getElem?,hn,Nat.add_sub_cancel,List.getElem?_eq_getElem (by omega)]
  rfl
 refine⟨hg,?_,?_⟩
 ·unfold gD
  rw[if_pos h]
  have hd:R=R.dropLast++[dg R]:=by
   rw[List.dropLast_eq_take,hn,Nat.add_sub_cancel]
   conv=>lhs;rw[←List.take_append_drop n R]
   obtain⟨h1,h2⟩:=List.getElem?_eq_some_iff.1 hg
   rw[List.drop_eq_getElem_cons h1,h2,List.drop_eq_nil_of_le (by omega)]
  have hl:R.dropLast.length=n:=by rw[List.length_dropLast,hn];rfl
  generalize dg R=q at*
  rw[List.map_append]
  generalize R.dropLast=D at*
  subst hd
  rw[List.map_append,List.set_append_right n _ (by rw[List.length_map,hl];exact Nat.le_refl _),List.length_map,hl,Nat.sub_self]
  rfl
 ·unfold gD
  rw[if_pos h,List.length_append,List.length_dropLast,hn];rfl
theorem zu(l:List ak)(nn:Bool)(hl:l.length≤1000000000)(H:aa):
  ah Tryz.prog 226 [.d (.list nn (l.map ak.enc))] H (.ok (.d (.list false ((dW l).map iF)))) H:=by
 have hlen:=py l
 have hcnt:=pv l
 refine ah.aj (hint:=(fun _=>false)) Tryz.func226 (by kernel_rfl) rfl [2] (by kernel_rfl) (by decide) (by simp[Tryz.ntmps226]) ?_
 rw[Tryz.ntmps226]
 simp -implicitDefEqProofs only[↓reduceIte,go_sem,Nat.reduceLT,reduceCtorEq]
 refine bf (fun k s H'=>∃ag,H'=H++[.arr 287 4 ag ((dW (l.take k)).map iF)]∧s 3= .sl H.length ag 0 (dW (l.take k)).length∧s 8= .d (.list nn (l.map ak.enc))∧s 9=iA l.length∧s 10=iA k) l.length (by omega) (an.fy _ _ 3 287 4 (by decide) (by simp -implicitDefEqProofs only[↓reduceIte,go_sem,Nat.reduceLT,Nat.reduceEqDiff]) _) ?_ ?_ ?_
 ·refine⟨0,rfl,?_⟩
  simp -implicitDefEqProofs only[↓reduceIte,go_sem,Nat.reduceLT,Nat.reduceEqDiff]
  rfl
 ·rintro k s H' hk hw ⟨ag,rfl,t3,t8,t9,t10⟩
  have hx:=List.getElem?_eq_getElem hk
  have e1:=jX l k hk
  have hR:=hlen k
  have hC:=hcnt k
  rw[e1]
  generalize l[k]=v at*
  generalize dW (l.take k)=R at*
  have hld:=yR R (H++[.arr 287 4 ag (R.map iF),.box 100 3 0 1 [iA v.kind,iA v.i,sA v.s]]) H.length ag (by omega) (by simp)
  simp -implicitDefEqProofs only[↓reduceIte,go_sem,aw,Nat.reduceAdd,Nat.reduceLT,Nat.reduceEqDiff,t3,t8,t9,t10,hk,hx,ak.enc]
  refine ab.ok hld ?_
  by_cases hc:R≠[]∧(dg R).2=v
  ·obtain⟨n,hn⟩:∃n,R.length=n+1:=⟨R.length-1,by have:=List.length_pos_iff.2 hc.1;omega⟩
   obtain⟨a1,a2,a3⟩:=Bw hc hn
   rw[a3]
   rw[hn]at t3
   have h1:=hc.1
   have h2:=hc.2
   generalize dg R=q at*
   obtain⟨m,w⟩:=q
   simp only at h2 a2
   subst h2
   have hm:=hC _ (List.mem_of_getElem? a1)
   simp only at hm
   have w1:IntKind.i64.wrap ((m:Int)+1)=((m+1:Nat):Int):=by rw[wrap64_in _ (by omega) (by omega)];rfl
   generalize hz:n+1=z at*
   have w2:IntKind.i64.wrap ((z:Int)-1)=(n:Int):=by rw[wrap64_in _ (by omega) (by omega)];omega
   generalize hy:((m+1:Nat):Int)=y at*
   generalize (gD R w).map iF=R2 at*
   simp -implicitDefEqProofs only[↓reduceIte,go_sem,ae,aw,Nat.reduceAdd,Nat.reduceLT,Nat.reduceLeDiff,Nat.reduceEqDiff,xH,ne_eq,h1,not_false_eq_true,decide_true,kX,t3,hn,w2,show((n:Int)<(z:Int))=True from eq_true (by omega),show((0:Int)≤(n:Int))=True from eq_true (by omega),a1,Option.map_some,iF,List.take_succ_cons,List.take_zero,List.map_cons,List.map_nil,List.length_cons,List.length_nil,w1,List.drop_succ_cons,List.drop_zero,a2]
   simp -implicitDefEqProofs only[↓reduceIte,go_sem,Nat.reduceLT,t10]
   refine cO.cut [.arr 287 4 ag R2] [.box 100 3 0 1 [iA w.kind,iA w.i,sA w.s],.box 287 4 0 1 [iA m,iA w.kind,iA w.i,sA w.s]] 1 rfl rfl (by simp -implicitDefEqProofs only[go_sem]) ?_
   refine⟨ag,rfl,?_⟩
   simp -implicitDefEqProofs only[↓reduceIte,go_sem,Nat.reduceLT,Nat.reduceEqDiff,t3,t8,t9,hw]
  ·have a1:=Ah hc
   have a2:(gD R v).length=R.length+1:=by unfold gD;rw[if_neg hc,List.length_append];rfl
   rw[a2]
   by_cases h1:R=[]
   ·subst h1
    generalize (gD [] v).map iF=R2 at*
    simp only[List.length_nil,List.map_nil,List.nil_append]at a1 t3⊢
    subst a1
    simp -implicitDefEqProofs only[↓reduceIte,go_sem,ae,aw,Nat.reduceAdd,Nat.reduceLT,Nat.reduceLeDiff,Nat.reduceEqDiff,reduceCtorEq,xH,dg,zR,zV,iv,List.getLast?_nil,Option.getD_none,ne_eq,not_true_eq_false,decide_false,t3,List.length_nil]
    simp -implicitDefEqProofs only[↓reduceIte,go_sem,Nat.reduceLT,t10]
    refine cO.cut [.arr 287 4 (ag+1) [[.v (.int .i64 1),.v (.int .i64 v.kind),.v (.int .i64 v.i),.v (.string v.s)]]] [.box 100 3 0 1 [iA v.kind,iA v.i,sA v.s],.box 287 4 0 1 [iA 0,iA 0,iA 0,sA ⟨#[]⟩]] 1 rfl rfl (by simp -implicitDefEqProofs only[go_sem]) ?_
    refine⟨ag+1,rfl,?_⟩
    simp -implicitDefEqProofs only[↓reduceIte,go_sem,Nat.reduceLT,Nat.reduceEqDiff,t8,t9,hw]
   ·have h2:¬(dg R).2=v:=fun h=>hc ⟨h1,h⟩
    generalize dg R=q at*
    obtain⟨m,w⟩:=q
    simp only at h2
    generalize (gD R v).map iF=R2 at*
    subst a1
    simp -implicitDefEqProofs only[↓reduceIte,go_sem,ae,aw,Nat.reduceAdd,Nat.reduceLT,Nat.reduceLeDiff,Nat.reduceEqDiff,xH,ne_eq,h1,not_false_eq_true,decide_true,kX,h2,decide_false,t3,List.length_map]
    refine⟨by omega,by omega,?_⟩
    simp -implicitDefEqProofs only[↓reduceIte,go_sem,Nat.reduceLT,t10]
    refine cO.cut [.arr 287 4 (ag+1) (R.map iF++[[.v (.int .i64 1),.v (.int .i64 v.kind),.v (.int .i64 v.i),.v (.string v.s)]])] [.box 100 3 0 1 [iA v.kind,iA v.i,sA v.s],.box 287 4 0 1 [iA m,iA w.kind,iA w.i,sA w.s]] 1 rfl rfl (by simp -implicitDefEqProofs only[go_sem]) ?_
    refine⟨ag+1,rfl,?_⟩
    simp -implicitDefEqProofs only[↓reduceIte,go_sem,Nat.reduceLT,Nat.reduceEqDiff,t8,t9,hw]
 ·rintro s H' ⟨ag,rfl,t3,t8,t9,t10⟩
  rw[List.take_length]at t3
  rw[List.take_length]
  simp -implicitDefEqProofs only[↓reduceIte,go_sem,Nat.reduceLT,Nat.reduceEqDiff,t3,t9,t10]
  refine ao.ret ?_
  simp -implicitDefEqProofs only[↓reduceIte,go_sem,Nat.reduceLT,List.take_of_length_le (show((dW l).map iF).length≤(dW l).length by rw[List.length_map];exact Nat.le_refl _)]
theorem AA{R:List (Nat×ak)}{p:ak→Prop}(h:∀r∈R,p r.2){v:ak}(hv:p v):∀r∈gD R v,p r.2:=by
 intro r hr
 unfold gD at hr
 split at hr
 ·rcases List.mem_append.1 hr with hr|hr
  ·exact h r (List.dropLast_subset R hr)
  ·simp at hr;rw[hr];exact hv
 ·rcases List.mem_append.1 hr with hr|hr
  ·exact h r hr
  ·simp at hr;rw[hr];exact hv
theorem pV{p:ak→Prop}:∀(l:List ak) (R:List (Nat×ak)),(∀v∈l,p v)→(∀r∈R,p r.2)→∀r∈l.foldl gD R,p r.2
 |[],R,_,h=>h
 |v::l,R,hl,h=>pV l _ (fun x hx=>hl x (by simp[hx])) (AA h (hl v (by simp)))
theorem xZ{p:ak→Prop}{l:List ak}(h:∀v∈l,p v):∀r∈dW l,p r.2:=pV l [] h (by simp)
def zl(r:Nat×ak):List Nat:=cA r.1++gB r.2
def lv(R:List (Nat×ak)):List Nat:=R.flatMap zl
def AW(l:List ak)(k:Int):List Nat:=if bg l k=0 then lv (dW l)else[]
theorem pG(R:List (Nat×ak))(r:Nat×ak):lv (R++[r])=lv R++zl r:=by simp[lv]
theorem oL(l:List ak)(k:Int)(hok:∀v∈l,fV v.i)(H:aa)(hl:l.length≤1000000000):
  ah Tryz.prog 195 [.d (.list false (l.map ak.enc)),iA k] H (.ok (.bq [.d (.list false (dx (AW l k))),iA (bg l k)])) H:=by
 by_cases hp:bg l k=0
 ·rw[show AW l k=lv (dW l)from if_pos hp]
  have hmay:=j7 hp
  have h4:=gM hp
  have hrd:=fun H=>zu l false hl H
  have hRl:=py l l.length
  have hRc:=pv l l.length
  rw[List.take_length]at hRl hRc
  have hRv:=xZ (p:=fun v=>fV v.i∧eL v=true) (l:=l) fun v hv=>⟨hok v hv,hmay v hv⟩
  generalize dW l=R at*
  have hone:∀r∈R,(zl r).length≤1050:=fun r hr=>by
   have h1:=eu 10 r.1 (by have:=hRc r hr;omega)
   have h2:=iR (hRv r hr).1 (hRv r hr).2
   unfold zl
   rw[List.length_append];omega
  have hWb:∀k,k≤R.length→(lv (R.take k)).length≤k* 1050:=by
   intro k
   induction k with
   |zero=>intro _;simp[lv]
   |succ k ih=>
    intro hk
    have hk':k<R.length:=by omega
    rw[List.take_succ_eq_append_getElem hk',pG,List.length_append]
    have h1:=ih (by omega)
    have h2:=hone _ (List.getElem_mem hk')
    omega
  refine ah.aj (hint:=(fun _=>false)) Tryz.func195 (by kernel_rfl) rfl [4,5] (by kernel_rfl) (by decide) (by simp[Tryz.ntmps195]) ?_
  rw[Tryz.ntmps195]
  simp -implicitDefEqProofs only[↓reduceIte,go_sem,Nat.reduceLT,Nat.reduceEqDiff,reduceCtorEq]
  refine ab.ok (db l k false _ (by omega)) ?_
  rw[hp]
  simp -implicitDefEqProofs only[↓reduceIte,go_sem,Nat.reduceLT,reduceCtorEq]
  refine ab.ok (hrd _) ?_
  simp -implicitDefEqProofs only[↓reduceIte,go_sem,Nat.reduceLT]
  refine bf (fun j s H'=>∃ag,H'=H++[.arr 5 1 ag (dx (lv (R.take j)))]∧s 7= .sl H.length ag 0 (lv (R.take j)).length∧s 19= .d (.list false (R.map iF))∧s 20=iA R.length∧s 21=iA j) R.length (by omega) (an.fy _ _ 7 5 1 (by decide) (by simp -implicitDefEqProofs only[↓reduceIte,go_sem,Nat.reduceLT,Nat.reduceEqDiff]) _) ?_ ?_ ?_
  ·refine⟨0,rfl,?_⟩
   simp -implicitDefEqProofs only[↓reduceIte,go_sem,Nat.reduceLT,Nat.reduceEqDiff]
   rfl
  ·rintro j s H' hj hw ⟨ag,rfl,t7,t19,t20,t21⟩
   have hx:=List.getElem?_eq_getElem hj
   have hm:=List.getElem_mem hj
   have hb:=hWb j (by omega)
   have hrl:=hone _ hm
   have hc:=hRc _ hm
   have hv:=hRv _ hm
   have e1:lv (R.take (j+1))=lv (R.take j)++(cA (R[j]).1++gB (R[j]).2):=by rw[List.take_succ_eq_append_getElem hj,pG,zl]
   unfold zl at hrl
   rw[List.length_append]at hrl
   rw[e1]
   generalize lv (R.take j)=B at*
   generalize R[j]=r at*
   obtain⟨m,w⟩:=r
   simp only at hrl hc hv⊢
   have hvd:=fun H=>fW w hv.1 hv.2 H
   have wm:=cM m (by omega)
   simp -implicitDefEqProofs only[↓reduceIte,go_sem,ae,aw,Nat.reduceAdd,Nat.reduceLT,Nat.reduceEqDiff,t19,t20,t21,hj,hx,iF]
   refine ab.ok (hvd _) ?_
   simp -implicitDefEqProofs only[↓reduceIte,go_sem,ae,Nat.reduceAdd,Nat.reduceLT,Nat.reduceLeDiff,Nat.reduceEqDiff,t7,wm]
   refine ab.ok (nI m (by omega) _) ?_
   simp -implicitDefEqProofs only[↓reduceIte,go_sem,Nat.reduceLT,Nat.reduceEqDiff,fM,bK,gQ]
   have hpm:=eu 10 m (by omega)
   refine⟨by omega,by omega,by omega,by omega,?_⟩
   simp -implicitDefEqProofs only[↓reduceIte,go_sem,Nat.reduceLT,t21]
   refine cO.cut [.arr 5 1 (ag+1+1) (dx (B++(cA m++gB w)))] [.box 287 4 0 1 [iA m,iA w.kind,iA w.i,sA w.s]] 1 rfl rfl (by simp -implicitDefEqProofs only[go_sem]) ?_
   refine⟨ag+1+1,rfl,?_⟩
   simp -implicitDefEqProofs only[↓reduceIte,go_sem,Nat.reduceAdd,Nat.reduceLT,Nat.reduceEqDiff,t19,t20,hw,Nat.add_assoc]
  ·rintro s H' ⟨ag,rfl,t7,t19,t20,t21⟩
   rw[show R.take R.length=R from List.take_length]at*
   simp -implicitDefEqProofs only[↓reduceIte,go_sem,Nat.reduceLT,Nat.reduceEqDiff,t7,t20,t21]
   refine ao.ret ?_
   simp -implicitDefEqProofs only[↓reduceIte,go_sem,Nat.reduceLT,Nat.reduceEqDiff,List.take_of_length_le (Nat.le_of_eq (bK (lv R)))]
 ·rw[show AW l k=[]from if_neg hp]
  refine ah.jW (cs:=[.d (.v (.slice none 0 0)),iA (bg l k)]) ?_ (.cons .nil (.cons (.refl _) .nil))
  refine ah.aj (hint:=(fun _=>false)) Tryz.func195 (by kernel_rfl) rfl [4,5] (by kernel_rfl) (by decide) (by simp[Tryz.ntmps195]) ?_
  rw[Tryz.ntmps195]
  simp -implicitDefEqProofs only[↓reduceIte,go_sem,Nat.reduceLT,Nat.reduceEqDiff,reduceCtorEq]
  refine ab.ok (db l k false _ (by omega)) ?_
  simp -implicitDefEqProofs only[↓reduceIte,go_sem,Nat.reduceLT,Nat.reduceEqDiff,hp]
  refine ao.aF ?_
  simp -implicitDefEqProofs only[↓reduceIte,go_sem,Nat.reduceLT,Nat.reduceEqDiff]
end Go.Proofs.YtggohfhfocgilaaGreat

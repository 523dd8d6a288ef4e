/- Contracts of functions and lemmas for costPlans_holds, part 9. -/
import Derived.Laws.Externs
import Derived.Laws.Bits64b
import Derived.Lib.Mul64
import Derived.Test.YtggohfhfocgilaaGreatM08
set_option maxHeartbeats 8000000
set_option maxRecDepth 100000
set_option linter.all false
namespace Go.Proofs.YtggohfhfocgilaaGreat
open Go.Proofs.YtggohfhfocgilaaGreatAw Go.RowKit
def b6(a b:Nat):Nat:=if a+b<18446744073709551616 then a+b else 18446744073709551615
def dQ(a b:Nat):Nat:=if a* b<18446744073709551616 then a* b else 18446744073709551615
theorem wk(a b:Nat)(ha:a<18446744073709551616)(hb:b<18446744073709551616)(H:aa):
  ah Tryz.prog 92 [du a,du b,.d (.v (.int .u64 0))] H (.ok (.bq [du ((a+b)%18446744073709551616),du ((a+b)/18446744073709551616)])) H:=by
 intro φ N w vals hR hA
 have hv:=oG.closed [.int .u64 (a:Int),.int .u64 (b:Int),.int .u64 0] hA
 subst hv
 refine .inr ⟨.tuple #[.int .u64 (((a+b)%18446744073709551616:Nat):Int),.int .u64 (((a+b)/18446744073709551616:Nat):Int)],w,?_,φ,N,hR,ar.refl,?_⟩
 ·rw[run_callFunc_extern (e:=add64Entry) Tryz.func92 (by kernel_rfl) (by kernel_rfl) (by kernel_rfl) (by kernel_rfl),run_add64 a b 0 (by omega) (by omega) (by omega) (by omega)]
  simp only[Result.andThen]
  congr 5<;>omega
 ·refine .bq _ _ rfl fun i h1 h2=>?_
  match i,h1 with
  |0,_=>exact .d (.v _ rfl)
  |1,_=>exact .d (.v _ rfl)
theorem fu(a b:Nat)(ha:a<18446744073709551616)(hb:b<18446744073709551616)(H:aa):
  ah Tryz.prog 43 [du a,du b] H (.ok (du (b6 a b))) H:=by
 refine ah.aj (hint:=(fun _=>false)) Tryz.func43 (by kernel_rfl) rfl [4] (by kernel_rfl) (by decide) (by simp[Tryz.ntmps43]) ?_
 rw[Tryz.ntmps43]
 simp -implicitDefEqProofs only[↓reduceIte,go_sem,Nat.reduceLT,Nat.reduceEqDiff,reduceCtorEq,du]
 refine ab.ok (wk a b ha hb H) ?_
 simp -implicitDefEqProofs only[↓reduceIte,go_sem,Nat.reduceLT,Nat.reduceEqDiff,du]
 by_cases h:a+b<18446744073709551616
 ·have h0:((a+b)/18446744073709551616)=0:=by omega
  refine cx (by simp -implicitDefEqProofs only[go_sem,h0]) ?_
  simp -implicitDefEqProofs only[↓reduceIte,go_sem,Nat.reduceLT,Nat.reduceEqDiff]
  refine ao.aF ?_
  simp -implicitDefEqProofs only[↓reduceIte,go_sem,Nat.reduceLT,b6,du,if_pos h,Nat.mod_eq_of_lt h]
 ·have h0:((a+b)/18446744073709551616)=1:=by omega
  refine cF (by simp -implicitDefEqProofs only[go_sem,Int.reduceEq,h0]) ?_
  simp -implicitDefEqProofs only[go_sem]
  refine ao.aF ?_
  simp -implicitDefEqProofs only[↓reduceIte,go_sem,Nat.reduceLT,b6,du,if_neg h]
  try rfl
theorem gr(a b:Nat)(ha:a<18446744073709551616)(hb:b<18446744073709551616)(H:aa):
  ah Tryz.prog 52 [du a,du b] H (.ok (du (b6 a b))) H:=by
 refine ah.aj (hint:=(fun _=>false)) Tryz.func52 (by kernel_rfl) rfl [4] (by kernel_rfl) (by decide) (by simp[Tryz.ntmps52]) ?_
 rw[Tryz.ntmps52]
 have hw:=bu (18446744073709551615-(b:Int)) (by omega) (by omega)
 by_cases h:a+b<18446744073709551616
 ·simp -implicitDefEqProofs only[↓reduceIte,go_sem,Nat.reduceLT,Nat.reduceEqDiff,reduceCtorEq,du,hw,show ¬18446744073709551615-(b:Int)<(a:Int) by omega]
  refine ao.aF ?_
  simp -implicitDefEqProofs only[↓reduceIte,go_sem,Nat.reduceLT,b6,du,if_pos h]
  rw[bu _ (by omega) (by omega)]
  try rfl
 ·simp -implicitDefEqProofs only[↓reduceIte,go_sem,Nat.reduceLT,Nat.reduceEqDiff,reduceCtorEq,du,hw,show 18446744073709551615-(b:Int)<(a:Int) by omega]
  refine ao.aF ?_
  simp -implicitDefEqProofs only[↓reduceIte,go_sem,Nat.reduceLT,b6,du,if_neg h]
  try rfl
theorem A0(a:Nat)(ha:a<18446744073709551616):IntKind.u64.wrap (z7 .u64 (a:Int) 4294967295)=((a%4294967296:Nat):Int):=by
 have h:=bits_and_u64_nat a 4294967295 ha (by omega)
 have e:a&&&4294967295=a%4294967296:=Nat.and_two_pow_sub_one_eq_mod a 32
 rw[e]at h
 exact h
theorem G9(a:Nat):j5 .u64 (a:Int) 32=((a/4294967296:Nat):Int):=by
 show(a:Int).fdiv (4294967296:Int)=_
 rw[Int.fdiv_eq_ediv_of_nonneg _ (by omega)]
 omega
theorem jV(a:Nat)(ha:a<18446744073709551616):IntKind.u64.wrap (a:Int)=(a:Int):=bu _ (by omega) (by omega)
theorem FZ(a:Nat):IntKind.u64.wrap (a:Int)=((a%18446744073709551616:Nat):Int):=by
 simp[IntKind.wrap,IntKind.signed,IntKind.bits]
theorem uM(x y:Nat)(hx:x<18446744073709551616)(hy:y<18446744073709551616)(H:aa):
  ah Tryz.prog 93 [du x,du y] H (.ok (.bq [du (x* y/18446744073709551616),du (x* y%18446744073709551616)])) H:=by
 obtain⟨bd,bt,bw,hhi⟩:=Lib.mul64_hi x y hx hy
 have ba:=Lib.half_mul_le (a:=x/4294967296) (b:=y/4294967296) (by omega) (by omega)
 have bb:=Lib.half_mul_le (a:=x/4294967296) (b:=y%4294967296) (by omega) (by omega)
 have bc:=Lib.half_mul_le (a:=x%4294967296) (b:=y/4294967296) (by omega) (by omega)
 have ba':x/4294967296* (y/4294967296)<18446744073709551616:=by omega
 have bb':x/4294967296* (y%4294967296)<18446744073709551616:=by omega
 have bc':x%4294967296* (y/4294967296)<18446744073709551616:=by omega
 have bh1:x/4294967296* (y/4294967296)+(x/4294967296* (y%4294967296)+x%4294967296* (y%4294967296)/4294967296)/4294967296<18446744073709551616:=by omega
 have bh:x/4294967296* (y/4294967296)+(x/4294967296* (y%4294967296)+x%4294967296* (y%4294967296)/4294967296)/4294967296+((x/4294967296* (y%4294967296)+x%4294967296* (y%4294967296)/4294967296)%4294967296+x%4294967296* (y/4294967296))/4294967296<18446744073709551616:=by omega
 refine ah.aj (hint:=(fun _=>false)) Tryz.func93 (by kernel_rfl) rfl [4,5] (by kernel_rfl) (by decide) (by simp[Tryz.ntmps93]) ?_
 rw[Tryz.ntmps93]
 simp -implicitDefEqProofs only[↓reduceIte,go_sem,Nat.reduceLT,Nat.reduceEqDiff,Int.reduceLE,reduceCtorEq,du]
 refine ao.aF ?_
 simp -implicitDefEqProofs only[↓reduceIte,go_sem,Nat.reduceLT,Nat.reduceEqDiff]
 simp only[A0 x hx,A0 y hy,G9,←Int.natCast_mul,←Int.natCast_add,jV _ bd,jV _ bb',jV _ bt,A0 _ bt,jV _ bc',jV _ bw,jV _ ba',jV _ bh1,FZ (x* y),hhi]
 rw[jV _ (by rw[←hhi];exact bh)]
theorem iQ(a b:Nat)(ha:a<18446744073709551616)(hb:b<18446744073709551616)(H:aa):
  ah Tryz.prog 44 [du a,du b] H (.ok (du (dQ a b))) H:=by
 refine ah.aj (hint:=(fun _=>false)) Tryz.func44 (by kernel_rfl) rfl [4] (by kernel_rfl) (by decide) (by simp[Tryz.ntmps44]) ?_
 rw[Tryz.ntmps44]
 simp -implicitDefEqProofs only[↓reduceIte,go_sem,Nat.reduceLT,Nat.reduceEqDiff,reduceCtorEq,du]
 refine ab.ok (uM a b ha hb H) ?_
 unfold dQ
 have hab:a* b=a* b:=rfl
 generalize a* b=p at hab⊢
 simp -implicitDefEqProofs only[↓reduceIte,go_sem,Nat.reduceLT,Nat.reduceEqDiff,du]
 by_cases h:p<18446744073709551616
 ·have h0:(p/18446744073709551616)=0:=by omega
  refine cx (by simp -implicitDefEqProofs only[go_sem,h0]) ?_
  simp -implicitDefEqProofs only[↓reduceIte,go_sem,Nat.reduceLT,Nat.reduceEqDiff]
  refine ao.aF ?_
  simp -implicitDefEqProofs only[↓reduceIte,go_sem,Nat.reduceLT,du,if_pos h,Nat.mod_eq_of_lt h]
 ·have h0:0<(p/18446744073709551616):=by omega
  refine cF (by congr 3;simp;omega) ?_
  simp -implicitDefEqProofs only[go_sem]
  refine ao.aF ?_
  simp -implicitDefEqProofs only[↓reduceIte,go_sem,Nat.reduceLT,du,if_neg h]
  try rfl
theorem qc(a b:Nat)(ha:a<18446744073709551616)(hb:b<18446744073709551616)(H:aa):
  ah Tryz.prog 103 [du a,du b] H (.ok (du (dQ a b))) H:=by
 refine ah.aj (hint:=(fun _=>false)) Tryz.func103 (by kernel_rfl) rfl [4] (by kernel_rfl) (by decide) (by simp[Tryz.ntmps103]) ?_
 rw[Tryz.ntmps103]
 by_cases hb0:b=0
 ·subst hb0
  have hne:(((0:Nat):Int) !=0)=false:=rfl
  simp -implicitDefEqProofs only[↓reduceIte,go_sem,Nat.reduceLT,Nat.reduceEqDiff,reduceCtorEq,du]
  refine ao.aF ?_
  simp -implicitDefEqProofs only[↓reduceIte,go_sem,Nat.reduceLT,du,dQ,Int.mul_zero,Nat.mul_zero,bu 0 (by omega) (by omega)]
 ·have hne:((b:Int) !=0)=true:=by simp;omega
  have hz:¬(b:Int)=0:=by omega
  have hq:IntKind.u64.wrap (Int.tdiv 18446744073709551615 (b:Int))=((18446744073709551615/b:Nat):Int):=by
   have:Int.tdiv 18446744073709551615 (b:Int)=((18446744073709551615/b:Nat):Int):=by
    rw[Int.tdiv_eq_ediv_of_nonneg (by omega)];rfl
   rw[this]
   have:=Nat.div_le_self 18446744073709551615 b
   exact jV _ (by omega)
  have hd:18446744073709551615/b<a↔18446744073709551615<a* b:=Nat.div_lt_iff_lt_mul (by omega)
  unfold dQ
  generalize 18446744073709551615/b=q at hd hq⊢
  by_cases h:a* b<18446744073709551616
  ·have hl:¬q<a:=fun h'=>by have:=hd.1 h';omega
   simp -implicitDefEqProofs only[↓reduceIte,go_sem,Nat.reduceLT,Nat.reduceEqDiff,reduceCtorEq,du,hne,hz,hq,hl]
   refine ao.aF ?_
   simp -implicitDefEqProofs only[↓reduceIte,go_sem,Nat.reduceLT,du,if_pos h,←Int.natCast_mul,jV _ h]
  ·have hl:q<a:=hd.2 (by omega)
   simp -implicitDefEqProofs only[↓reduceIte,go_sem,Nat.reduceLT,Nat.reduceEqDiff,reduceCtorEq,du,hne,hz,hq,hl]
   refine ao.aF ?_
   simp -implicitDefEqProofs only[↓reduceIte,go_sem,Nat.reduceLT,du,if_neg h]
   try rfl
structure Qu where
 table:D
 pred:List Atom
 aL:List (Int×D×D×D)
 aE:List Int
 group:D
 bJ:List (Int×Int)
 order:D
 pN:D
def Qu.ds(q:Qu):List D:=[q.table,.list false (q.pred.map Atom.enc),.list false (q.aL.map jh),.list false (ints q.aE),q.group,.list false (q.bJ.map iE),q.order,q.pN]
def Qu.av(q:Qu):AV:= .agg (q.ds.map .d)
def Qu.cT(q:Qu):List Int:=nW q.aE q.bJ q.aL
structure Qu.Ok (q:Qu):Prop where
 pred:q.pred.length≤100
 aL:q.aL.length≤100
 aE:q.aE.length≤100
 bJ:q.bJ.length≤100
structure Pl where
 proj:Int
 late:Bool
 order:List Int
 rep:Int
 range:Bool
deriving DecidableEq
def Pl.ds(p:Pl):List D:=[iD p.proj,.v (.bool p.late),.list false (ints p.order),iD p.rep,.v (.bool p.range)]
def Pl.av(p:Pl):AV:= .agg (p.ds.map .d)
theorem j1(q:Qu)(hq:q.Ok)(H:aa):ah Tryz.prog 16 [q.av] H (.ok (.d (.list false (ints q.cT)))) H:=
 pI q.aE q.bJ q.aL _ _ _ _ _ _ _ _ (by have:=hq.aE;omega) (by have:=hq.bJ;omega) (by have:=hq.aL;omega) H
theorem Qu.jE(q:Qu)(hq:q.Ok):q.cT.length≤300:=by
 have h1:=dj tell hO q.aE []
 have h2:=dj fl nD q.bJ (q.aE.foldl tell [])
 have h3:=dj mw (fun o j=>hO o _) q.aL (q.bJ.foldl fl (q.aE.foldl tell []))
 have:=hq.aE;have:=hq.bJ;have:=hq.aL
 unfold Qu.cT nW
 simp at h1
 omega
theorem rX(a:Atom)(c:Int)(i:Nat)(H:aa)(hi:H[i]?=some (.box 3 1 0 1 [iA c])):ah Tryz.prog 100 [a.av,.ptr i 0 0 0] H (.ok (bA (decide (a.eo=c)))) H:=by
 have hi2:=fun T=>Ds hi T
 refine ah.aj (hint:=(fun _=>false)) Tryz.func100 (by kernel_rfl) rfl [3] (by kernel_rfl) (by decide) (by simp[Tryz.ntmps100]) ?_
 rw[Tryz.ntmps100]
 simp -implicitDefEqProofs only[↓reduceIte,go_sem,ae,Nat.reduceAdd,Nat.reduceLT,Nat.reduceLeDiff,Nat.reduceEqDiff,hi2]
 refine ao.ret ?_
 simp -implicitDefEqProofs only[↓reduceIte,go_sem,Nat.reduceLT]
def asked(q:Qu)(c:Int):Bool:=(q.pred.any fun a=>decide (a.eo=c))||decide (c∈q.cT)
def eM(p:Pj)(q:Qu)(rows:Nat):Nat:=dQ rows (p.aE.filter (asked q)).length
theorem vC(p:Pj)(hp:p.aE.length≤1000000000)(q:Qu)(hq:q.Ok)(rows:Nat)(hr:rows<18446744073709551616)(H:aa):ah Tryz.prog 49 [p.av,q.av,du rows] H (.ok (du (eM p q rows))) H:=by
 have hn:=fun H=>j1 q hq H
 have hnl:=q.jE hq
 have hpl:=hq.pred
 unfold eM
 have hask:∀c,asked q c=((q.pred.any fun a=>decide (a.eo=c))||decide (c∈q.cT)):=fun c=>rfl
 generalize asked q=ask at*
 generalize q.cT=cT at*
 obtain⟨cs,key,prows,S⟩:=p
 obtain⟨q0,pred,aL,qcols,q4,bJ,q6,q7⟩:=q
 simp only at*
 refine ah.aj (hint:=(fun _=>false)) Tryz.func49 (by kernel_rfl) rfl [6] (by kernel_rfl) (by decide) (by simp[Tryz.ntmps49]) ?_
 rw[Tryz.ntmps49]
 simp -implicitDefEqProofs only[↓reduceIte,go_sem,ae,Nat.reduceAdd,Nat.reduceLT,Nat.reduceEqDiff,Pj.av,Pj.ds,Qu.av,Qu.ds]
 refine ab.ok (hn _) ?_
 simp -implicitDefEqProofs only[↓reduceIte,go_sem,ae,Nat.reduceAdd,Nat.reduceLT,Nat.reduceLeDiff,Nat.reduceEqDiff,az]
 obtain⟨qb,hqb⟩:∃qb,qb=aA.box 30 8 0 1 [.d q0,.d (.list false (pred.map Atom.enc)),.d (.list false (aL.map jh)),.d (.list false (ints qcols)),.d q4,.d (.list false (bJ.map iE)),.d q6,.d q7]:=⟨_,rfl⟩
 have hb:∀m,qb.below m=true:=by intro m;subst hqb;simp -implicitDefEqProofs only[go_sem]
 obtain⟨pb,hpb⟩:∃pb,pb=aA.box 36 4 0 1 [.d (.list false (ints cs)),.d (.list false (ints key)),iA prows,.d (.list false (bC S))]:=⟨_,rfl⟩
 have hb2:∀m,pb.below m=true:=by intro m;subst hpb;simp -implicitDefEqProofs only[go_sem]
 rw[←hqb,←hpb]
 refine bf (fun k s H'=>H'=H++[pb,qb]∧s 2=du rows∧s 4= .ptr (H.length+1) 0 0 0∧s 7= .d (.list false (ints cT))∧s 8=du ((cs.take k).filter ask).length∧s 15= .d (.list false (ints cs))∧s 16=iA cs.length∧s 17=iA k) cs.length (by omega) (an.refl _ _) ?_ ?_ ?_
 ·refine⟨rfl,?_⟩
  simp -implicitDefEqProofs only[↓reduceIte,go_sem,Nat.reduceLT,Nat.reduceEqDiff,List.take_zero,List.filter_nil]
  rfl
 ·rintro k s H' hk hw ⟨rfl,t2,t4,t7,t8,t15,t16,t17⟩
  have hx:=b5 cs k hk
  have e1:((cs.take (k+1)).filter ask).length=((cs.take k).filter ask).length+if ask cs[k]=true then 1 else 0:=by
   rw[List.take_succ_eq_append_getElem hk,List.filter_append,List.length_append]
   cases h:ask cs[k]<;>simp[h]
  have hle:((cs.take k).filter ask).length≤k:=Nat.le_trans (List.length_filter_le _ _) (List.length_take_le _ _)
  have hac:=hask cs[k]
  rw[e1]
  generalize ((cs.take k).filter ask).length=m at*
  generalize cs[k]=c at*
  have hca:=fun G (hg:G[H.length+2]?=some (.box 3 1 0 1 [iA c]))=>iY pred (fun a=>decide (a.eo=c)) 100 [.ptr (H.length+2) 0 0 0] false G (by omega) fun a _=>rX a c _ _ hg
  simp -implicitDefEqProofs only[↓reduceIte,go_sem,ae,aw,Nat.reduceAdd,Nat.reduceLT,Nat.reduceEqDiff,t15,t16,t17,hk,hx,t4]
  rw[hqb]
  simp -implicitDefEqProofs only[↓reduceIte,go_sem,Nat.reduceAdd,Nat.reduceLT,Nat.reduceLeDiff,Nat.reduceEqDiff]
  refine ab.ok (hca _ (by simp)) ?_
  obtain⟨m1,hm1⟩:∃m1,m1=m+1:=⟨_,rfl⟩
  have hwm:IntKind.u64.wrap ((m:Int)+1)=(m1:Int):=by rw[bu _ (by omega) (by omega)];omega
  cases ha:pred.any fun a=>decide (a.eo=c)
  case' true=>
   rw[ha,Bool.true_or]at hac
   simp -implicitDefEqProofs only[↓reduceIte,go_sem,Nat.reduceLT,Nat.reduceEqDiff,t8,t17,hwm]
  case' false=>
   rw[ha,Bool.false_or]at hac
   simp -implicitDefEqProofs only[↓reduceIte,go_sem,ae,Nat.reduceLT,Nat.reduceEqDiff,t7]
   refine ab.ok (oz cT c false _ (by omega)) ?_
   by_cases h2:c∈cT
   case' pos=>
    rw[decide_eq_true h2]at hac
    simp -implicitDefEqProofs only[↓reduceIte,go_sem,Nat.reduceLT,Nat.reduceEqDiff,reduceCtorEq,eq_true h2,t8,t17,hwm]
   case' neg=>
    rw[decide_eq_false h2]at hac
    simp -implicitDefEqProofs only[↓reduceIte,go_sem,Nat.reduceLT,Nat.reduceEqDiff,reduceCtorEq,eq_false h2,t17]
  all_goals
   rw[←hqb]
   refine cO.cut [_,_] _ 2 rfl rfl (by simp -implicitDefEqProofs only[go_sem,hb,hb2]) ⟨rfl,?_⟩
   simp -implicitDefEqProofs only[↓reduceIte,go_sem,Nat.reduceLT,Nat.reduceEqDiff,reduceCtorEq,t2,t4,t7,t8,t15,t16,hw,hac,←hm1]
 ·rintro s H' ⟨rfl,t2,t4,t7,t8,t15,t16,t17⟩
  rw[List.take_length]at t8
  have hle:(cs.filter ask).length≤cs.length:=List.length_filter_le _ _
  simp -implicitDefEqProofs only[↓reduceIte,go_sem,Nat.reduceLT,Nat.reduceEqDiff,t16,t17,t2,t8]
  refine ab.ok (iQ rows _ hr (by omega) _) ?_
  simp -implicitDefEqProofs only[↓reduceIte,go_sem,Nat.reduceLT]
  refine ao.ret ?_
  simp -implicitDefEqProofs only[↓reduceIte,go_sem,Nat.reduceLT]
def dH(p:Pj)(Z:List Zn)(x:Nat×Nat)(a:Atom):Nat×Nat:=
 if 0≤cC a.eo p.aE∧cC a.eo p.aE<Z.length then(b6 x.1 x.2,min x.2 (iO (Z.getD (cC a.eo p.aE).toNat jD) a))else x
def jQ(p:Pj)(Z:List Zn)(l:List Atom)(rows:Nat):Nat×Nat:=l.foldl (dH p Z) (0,rows)
def kT(p:Pj)(q:Qu)(l:List Atom)(Z:List Zn)(rows:Nat):Nat:=b6 (jQ p Z l rows).1 (dQ (jQ p Z l rows).2 q.cT.length)
theorem eh(a b:Nat):b6 a b<18446744073709551616:=by unfold b6;split<;>omega
theorem kU(a b:Nat):dQ a b<18446744073709551616:=by unfold dQ;split<;>omega
theorem ou(p:Pj)(Z:List Zn)(rows:Nat)(hr:rows<18446744073709551616):∀(l:List Atom) (x:Nat×Nat),x.1<18446744073709551616→x.2<18446744073709551616→(l.foldl (dH p Z) x).1<18446744073709551616∧(l.foldl (dH p Z) x).2<18446744073709551616
 |[],x,h1,h2=>⟨h1,h2⟩
 |a::l,x,h1,h2=>by
  rw[List.foldl_cons]
  refine ou p Z rows hr l _ ?_ ?_
  ·unfold dH;split;exact eh _ _;exact h1
  ·unfold dH;split;(simp only;omega);exact h2
theorem sy(z:Zn)(a:Atom):iO z a≤z.rows:=by unfold iO;split;omega;split<;>omega
theorem qk(x:Int)(l:List Int):cC x l<l.length:=by
 unfold cC
 split
 ·rename_i h;have:=List.idxOf_lt_length_of_mem h;omega
 ·omega
theorem zw(p:Pj)(hp:p.aE.length≤1000000000)(q:Qu)(hq:q.Ok)(l:List Atom)(n1:Bool)(hl:l.length≤1000000000)(Z:List Zn)(hZ:∀z∈Z,z.rows≤1000000000)(hZl:Z.length≤1000000000)(rows:Nat)(hr:rows<18446744073709551616)(H:aa):
  ah Tryz.prog 48 [p.av,q.av,.d (.list n1 (l.map Atom.enc)),.d (.list false (Z.map Zn.ds)),du rows] H (.ok (du (kT p q l Z rows))) H:=by
 have hn:=fun H=>j1 q hq H
 have hnl:=q.jE hq
 unfold kT
 generalize q.cT=cT at*
 have hlt:=fun k=>ou p Z rows hr (l.take k) (0,rows) (by omega) hr
 have hstep:∀x a,dH p Z x a=if 0≤cC a.eo p.aE∧cC a.eo p.aE<Z.length then(b6 x.1 x.2,min x.2 (iO (Z.getD (cC a.eo p.aE).toNat jD) a))else x:=fun x a=>rfl
 unfold jQ
 generalize dH p Z=f at*
 obtain⟨cs,key,prows,S⟩:=p
 simp only at*
 have hqa:q.av= .agg [.d q.table,.d (.list false (q.pred.map Atom.enc)),.d (.list false (q.aL.map jh)),.d (.list false (ints q.aE)),.d q.group,.d (.list false (q.bJ.map iE)),.d q.order,.d q.pN]:=rfl
 refine ah.aj (hint:=(fun _=>false)) Tryz.func48 (by kernel_rfl) rfl [10] (by kernel_rfl) (by decide) (by simp[Tryz.ntmps48]) ?_
 rw[Tryz.ntmps48]
 simp -implicitDefEqProofs only[↓reduceIte,go_sem,Nat.reduceAdd,Nat.reduceLT,Nat.reduceEqDiff,Pj.av,Pj.ds,hqa]
 obtain⟨qb,hqb⟩:∃qb,qb=aA.box 30 8 0 1 [.d q.table,.d (.list false (q.pred.map Atom.enc)),.d (.list false (q.aL.map jh)),.d (.list false (ints q.aE)),.d q.group,.d (.list false (q.bJ.map iE)),.d q.order,.d q.pN]:=⟨_,rfl⟩
 have hb:∀m,qb.below m=true:=by intro m;subst hqb;simp -implicitDefEqProofs only[go_sem]
 obtain⟨pb,hpb⟩:∃pb,pb=aA.box 36 4 0 1 [.d (.list false (ints cs)),.d (.list false (ints key)),iA prows,.d (.list false (bC S))]:=⟨_,rfl⟩
 have hb2:∀m,pb.below m=true:=by intro m;subst hpb;simp -implicitDefEqProofs only[go_sem]
 rw[←hqb,←hpb]
 refine bf (fun k s H'=>H'=H++[pb,qb]∧s 3= .d (.list false (Z.map Zn.ds))∧s 5= .ptr H.length 0 0 0∧s 6= .ptr (H.length+1) 0 0 0∧s 11=du ((l.take k).foldl f (0,rows)).1∧s 12=du ((l.take k).foldl f (0,rows)).2∧s 17= .d (.list n1 (l.map Atom.enc))∧s 18=iA l.length∧s 19=iA k) l.length (by omega) (an.refl _ _) ?_ ?_ ?_
 ·refine⟨rfl,?_⟩
  simp -implicitDefEqProofs only[↓reduceIte,go_sem,Nat.reduceLT,Nat.reduceEqDiff,List.take_zero,List.foldl_nil]
  rfl
 ·rintro k s H' hk hw ⟨rfl,t3,t5,t6,t11,t12,t17,t18,t19⟩
  have hx:(l.map Atom.enc)[k]?=some l[k].enc:=by simp[hk]
  have e1:(l.take (k+1)).foldl f (0,rows)=f ((l.take k).foldl f (0,rows)) l[k]:=by rw[List.take_succ_eq_append_getElem hk,List.foldl_append];rfl
  obtain⟨hl1,hl2⟩:=hlt k
  rw[e1,hstep]
  generalize (l.take k).foldl f (0,rows)=x at*
  obtain⟨sum,left⟩:=x
  generalize l[k]=a at*
  simp only at hl1 hl2 t11 t12⊢
  have hil:=qk a.eo cs
  have hid:=fun H=>jk cs a.eo false H (by omega)
  generalize cC a.eo cs=i at*
  simp -implicitDefEqProofs only[↓reduceIte,go_sem,ae,aw,Nat.reduceAdd,Nat.reduceLT,Nat.reduceEqDiff,t17,t18,t19,hk,hx,Atom.enc,t5]
  rw[hpb]
  simp -implicitDefEqProofs only[↓reduceIte,go_sem,ae,Nat.reduceAdd,Nat.reduceLT,Nat.reduceLeDiff,Nat.reduceEqDiff]
  refine ab.ok (hid _) ?_
  by_cases h0:i<0
  case' pos=>
   rw[if_neg (by omega)]
   simp -implicitDefEqProofs only[↓reduceIte,go_sem,Nat.reduceLT,Nat.reduceEqDiff,reduceCtorEq,show ¬(0:Int)≤i by omega,t19]
  case' neg=>
   obtain⟨j,rfl⟩:=Int.eq_ofNat_of_zero_le (show 0≤i by omega)
   by_cases hj:j<Z.length
   case' neg=>
    rw[if_neg (by omega)]
    simp -implicitDefEqProofs only[↓reduceIte,go_sem,Nat.reduceLT,Nat.reduceEqDiff,t3,dw,hj,t19]
   case' pos=>
    rw[if_pos ⟨by omega,by omega⟩]
    have hz:(Z.map Zn.ds)[j]?=some Z[j].ds:=by simp[hj]
    have hzd:Z.getD j jD=Z[j]:=by simp[hj]
    have hro:=fun H=>y4 Z[j] a (hZ _ (List.getElem_mem hj)) H
    have hzr:=hZ _ (List.getElem_mem hj)
    have hrl:=sy Z[j] a
    simp only[Int.toNat_natCast]
    rw[hzd]
    generalize iO Z[j] a=rz at*
    generalize Z[j]=z at*
    simp -implicitDefEqProofs only[↓reduceIte,go_sem,Nat.reduceLT,Nat.reduceEqDiff,t3,dw,hj,t11,t12]
    refine ab.ok (fu sum left hl1 hl2 _) ?_
    simp -implicitDefEqProofs only[↓reduceIte,go_sem,Nat.reduceLT]
    refine aR K.mixed (by kernel_rfl) ?_
    simp -implicitDefEqProofs only[↓reduceIte,go_sem,ae,Nat.reduceAdd,Nat.reduceLT,Nat.reduceEqDiff,t3,t12,hz,Zn.ds,iD]
    refine ab.ok (hro _) ?_
    have hwm:IntKind.u64.wrap (max (rz:Int) 0)=(rz:Int):=by rw[bu _ (by omega) (by omega)];omega
    have hmn:min (left:Int) (rz:Int)=((min left rz:Nat):Int):=by omega
    simp -implicitDefEqProofs only[↓reduceIte,go_sem,Nat.reduceLT,Nat.reduceEqDiff,hwm,hmn,t19]
  all_goals
   rw[←hpb]
   refine cO.cut [_,_] _ 2 rfl rfl (by simp -implicitDefEqProofs only[go_sem,hb,hb2]) ⟨rfl,?_⟩
   simp -implicitDefEqProofs only[↓reduceIte,go_sem,Nat.reduceLT,Nat.reduceEqDiff,t3,t5,t6,t11,t12,t17,t18,hw]
 ·rintro s H' ⟨rfl,t3,t5,t6,t11,t12,t17,t18,t19⟩
  obtain⟨hl1,hl2⟩:=hlt l.length
  rw[List.take_length]at t11 t12 hl1 hl2
  generalize l.foldl f (0,rows)=x at*
  obtain⟨sum,left⟩:=x
  simp only at hl1 hl2 t11 t12⊢
  simp -implicitDefEqProofs only[↓reduceIte,go_sem,ae,Nat.reduceLT,Nat.reduceEqDiff,t18,t19,t11,t12,t6]
  rw[hqb]
  simp -implicitDefEqProofs only[↓reduceIte,go_sem,Nat.reduceAdd,Nat.reduceLT]
  refine ab.ok (hn _) ?_
  simp -implicitDefEqProofs only[↓reduceIte,go_sem,Nat.reduceLT,Nat.reduceEqDiff,az,bu (cT.length:Int) (by omega) (by omega)]
  refine ab.ok (iQ left cT.length hl2 (by omega) _) ?_
  simp -implicitDefEqProofs only[↓reduceIte,go_sem,Nat.reduceLT,Nat.reduceEqDiff]
  refine ab.ok (fu sum (dQ left cT.length) hl1 (kU _ _) _) ?_
  simp -implicitDefEqProofs only[↓reduceIte,go_sem,Nat.reduceLT]
  refine ao.ret ?_
  simp -implicitDefEqProofs only[↓reduceIte,go_sem,Nat.reduceLT]
def bM(q:Qu)(pl:Pl):List Atom:=if pl.late then c8 q.pred pl.order else q.pred
def eG(p:Pj)(q:Qu)(pl:Pl)(sum k:Nat):Nat:=
 if gR p (aJ p.bk k) (bM q pl)then sum else
  let rows:=((aJ p.bk k).getD 0 jD).rows
  let s1:=if pl.late then b6 (b6 sum pl.rep.toNat) (kT p q (bM q pl) (aJ p.bk k) rows)else b6 sum (eM p q rows)
  if pl.range then s1 else b6 s1 (dQ rows q.aL.length)
def gd(p:Pj)(q:Qu)(pl:Pl)(k:Nat):Nat:=(List.range k).foldl (eG p q pl) 0
def rB(p:Pj)(q:Qu)(pl:Pl):Nat:=gd p q pl (bn p.bk)
theorem jb(p:Pj)(q:Qu)(pl:Pl)(k:Nat):gd p q pl (k+1)=eG p q pl (gd p q pl k) k:=by simp[gd,List.range_succ]
theorem lM(p:Pj)(q:Qu)(pl:Pl):∀k,gd p q pl k<18446744073709551616
 |0=>by simp[gd]
 |k+1=>by
  rw[jb]
  unfold eG
  split
  ·exact lM p q pl k
  ·simp only
   split
   ·split<;>exact eh _ _
   ·exact eh _ _
theorem uI{S:List (List Sg)}{k:Nat}(h:¬k<bn S):aJ S k=[]:=by unfold aJ;rw[if_pos (.inr (by omega))]
theorem oE{S:List (List Sg)}{k:Nat}(h:k<bn S):aJ S k=S.map (fun l=>cz l k)∧0<S.length:=by
 unfold aJ
 rw[if_neg (by omega)]
 refine⟨rfl,?_⟩
 cases S with
 |nil=>simp[bn]at h
 |cons=>simp
theorem tA(p:Pj)(hp:p.Ok)(q:Qu)(hq:q.Ok)(pl:Pl)(hpl:pl.order.length≤1000)(hrep:fV pl.rep)(H:aa):ah Tryz.prog 12 [p.av,q.av,pl.av] H (.ok (du (rB p q pl))) H:=by
 unfold rB
 have hlt:=lM p q pl
 have hst:=fun k=>jb p q pl k
 have h0:gd p q pl 0=0:=rfl
 have hgn:=fun k=>uI (S:=p.bk) (k:=k)
 have hgp:=fun k=>oE (S:=p.bk) (k:=k)
 have hgd:=fun k (hk:fV k) H=>m8 p hp k hk H
 have hcs:∀sum k,eG p q pl sum k=if gR p (aJ p.bk k) (bM q pl)then sum else if pl.range then(if pl.late then b6 (b6 sum pl.rep.toNat) (kT p q (bM q pl) (aJ p.bk k) ((aJ p.bk k).getD 0 jD).rows)else b6 sum (eM p q ((aJ p.bk k).getD 0 jD).rows))else b6 (if pl.late then b6 (b6 sum pl.rep.toNat) (kT p q (bM q pl) (aJ p.bk k) ((aJ p.bk k).getD 0 jD).rows)else b6 sum (eM p q ((aJ p.bk k).getD 0 jD).rows)) (dQ ((aJ p.bk k).getD 0 jD).rows q.aL.length):=fun sum k=>by
  unfold eG;split<;>rfl
 have hzr:=fun(k:Int) z (h:z∈aJ p.bk k)=>hp.eA h
 generalize gd p q pl=F at*
 generalize eG p q pl=G at*
 have hal:(bM q pl).length≤1000:=by
  unfold bM
  have:=hq.pred
  split
  ·exact Nat.le_trans (gA _ _) hpl
  ·omega
 have hpr:=fun k (hk:fV k) H=>vw p hp (bM q pl) false (by omega) k hk H
 have hea:=fun rows (hr:rows<18446744073709551616) H=>vC p hp.aE q hq rows hr H
 have hla:=fun Z (hZ:∀z∈Z,z.rows≤1000000000) (hZl:Z.length≤1000000000) rows (hr:rows<18446744073709551616) H=>zw p hp.aE q hq (bM q pl) false (by omega) Z hZ hZl rows hr H
 have hor:=fun H=>mD q.pred pl.order false false H (by have:=hq.pred;omega) (by omega)
 have hA:bM q pl=if pl.late then c8 q.pred pl.order else q.pred:=rfl
 have hgs:=hp.many
 have hsl:=hp.len
 have hjl:=hq.aL
 generalize bM q pl=A at*
 obtain⟨pb,hpb⟩:∃pb,pb=aA.box 36 4 0 1 [.d (.list false (ints p.aE)),.d (.list false (ints p.key)),iA p.rows,.d (.list false (bC p.bk))]:=⟨_,rfl⟩
 obtain⟨qb,hqb⟩:∃qb,qb=aA.box 30 8 0 1 [.d q.table,.d (.list false (q.pred.map Atom.enc)),.d (.list false (q.aL.map jh)),.d (.list false (ints q.aE)),.d q.group,.d (.list false (q.bJ.map iE)),.d q.order,.d q.pN]:=⟨_,rfl⟩
 obtain⟨proj,late,order,rep,range⟩:=pl
 simp only at*
 refine ah.aj (hint:=(fun _=>false)) Tryz.func12 (by kernel_rfl) rfl [6] (by kernel_rfl) (by decide) (by simp[Tryz.ntmps12]) ?_
 rw[Tryz.ntmps12]
 simp -implicitDefEqProofs only[↓reduceIte,go_sem,ae,Nat.reduceAdd,Nat.reduceLT,Nat.reduceLeDiff,Nat.reduceEqDiff,Pj.av,Pj.ds,Qu.av,Qu.ds,Pl.av,Pl.ds]
 rw[←hqb,←hpb]
 refine dX (fun s H'=>H'=H++[pb,qb,.box 32 5 0 1 [iA proj,bA late,.d (.list false (ints order)),iA rep,bA range]]∧s 3= .ptr H.length 0 0 0∧s 4= .ptr (H.length+1) 0 0 0∧s 5= .ptr (H.length+2) 0 0 0∧s 7= .d (.list false (A.map Atom.enc))) rfl ?_ ?_
 ·cases late
  ·simp -implicitDefEqProofs only[↓reduceIte,go_sem,Nat.reduceLT,Nat.reduceEqDiff,hqb,hpb,hA,Bool.false_eq_true]
  ·simp -implicitDefEqProofs only[↓reduceIte,go_sem,ae,Nat.reduceAdd,Nat.reduceLT,Nat.reduceLeDiff,Nat.reduceEqDiff,hqb]
   refine ab.ok (hor _) ?_
   simp -implicitDefEqProofs only[↓reduceIte,go_sem,Nat.reduceLT,Nat.reduceEqDiff,hA,hpb,hqb,iD]
 rintro s H' ⟨rfl,t3,t4,t5,t7⟩
 obtain⟨lb,hlb⟩:∃lb,lb=aA.box 32 5 0 1 [iA proj,bA late,.d (.list false (ints order)),iA rep,bA range]:=⟨_,rfl⟩
 rw[←hlb]
 simp -implicitDefEqProofs only[go_sem]
 refine br Tryz.prog _ _ _ (fun k s H'=>k≤bn p.bk∧H'=H++[pb,qb,lb]∧s 3= .ptr H.length 0 0 0∧s 4= .ptr (H.length+1) 0 0 0∧s 5= .ptr (H.length+2) 0 0 0∧s 7= .d (.list false (A.map Atom.enc))∧s 8=du (F k)∧s 9=iA k) (fun k=>bn p.bk-k) 0 (an.refl _ _) ?_ ?_
 ·refine⟨Nat.zero_le _,rfl,?_⟩
  simp -implicitDefEqProofs only[↓reduceIte,go_sem,Nat.reduceLT,Nat.reduceEqDiff,t3,t4,t5,t7,h0]
  rfl
 rintro k s H' ⟨hk,rfl,t3,t4,t5,t7,t8,t9⟩
 have hki:fV k:=⟨by omega,by omega⟩
 simp -implicitDefEqProofs only[↓reduceIte,go_sem,ae,Nat.reduceAdd,Nat.reduceLT,Nat.reduceEqDiff,t3,t9,hpb]
 refine ab.ok (hgd k hki _) ?_
 by_cases hkg:k<bn p.bk
 case neg=>
  obtain rfl:k=bn p.bk:=by omega
  simp -implicitDefEqProofs only[↓reduceIte,go_sem,Nat.reduceLT,Nat.reduceEqDiff,hgn _ hkg,List.map_nil,List.length_nil,t8]
  refine ao.ret ?_
  simp -implicitDefEqProofs only[↓reduceIte,go_sem,Nat.reduceLT]
 obtain⟨hZe,hS⟩:=hgp k hkg
 have hpk:=hpr k hki
 have hsk:=hst k
 rw[hcs]at hsk
 have hZr:=hzr k
 have hZl:(aJ p.bk k).length=p.bk.length:=by rw[hZe];simp
 have hFk:=hlt k
 clear hZe
 generalize aJ p.bk k=Z at*
 generalize gR p Z A=pr at*
 simp -implicitDefEqProofs only[↓reduceIte,go_sem,ae,Nat.reduceAdd,Nat.reduceLT,Nat.reduceEqDiff,List.length_map,hZl,show ¬((p.bk.length:Int)=0) by omega,t3,t7,t9]
 refine ab.ok (hpk _) ?_
 cases pr with
 |true=>
  simp -implicitDefEqProofs only[↓reduceIte,go_sem,Nat.reduceLT,Nat.reduceEqDiff,t9]
  rw[←hpb]
  refine⟨_,_,k+1,an.refl _ _,⟨hkg,rfl,?_⟩,by omega⟩
  rw[hsk,if_pos rfl]
  simp -implicitDefEqProofs only[↓reduceIte,go_sem,Nat.reduceLT,Nat.reduceEqDiff,t3,t4,t5,t7,t8,wrap64_in ((k:Int)+1) (by omega) (by omega)]
 |false=>
 rw[if_neg (by simp)]at hsk
 have hz:(Z.map Zn.ds)[0]?=some Z[0].ds:=by simp[show 0<Z.length by omega]
 have hzd:Z.getD 0 jD=Z[0]:=by simp[show 0<Z.length by omega]
 have hz1:=hZr Z[0] (List.getElem_mem (by omega))
 rw[hzd]at hsk
 have hea:=hea Z[0].rows (by omega)
 have hla:=hla Z hZr (by omega) Z[0].rows (by omega)
 have hel:eM p q Z[0].rows<18446744073709551616:=kU _ _
 have hll:kT p q A Z Z[0].rows<18446744073709551616:=eh _ _
 generalize Z[0]=z at*
 have hwr:IntKind.u64.wrap (max (z.rows:Int) 0)=(z.rows:Int):=by rw[bu _ (by omega) (by omega)];omega
 generalize hs1:(if late=true then b6 (b6 (F k) rep.toNat) (kT p q A Z z.rows)else b6 (F k) (eM p q z.rows))=s1 at*
 have hs1l:s1<18446744073709551616:=by rw[←hs1];split<;>exact eh _ _
 simp -implicitDefEqProofs only[↓reduceIte,go_sem,ae,Nat.reduceAdd,Nat.reduceLT,Nat.reduceLeDiff,Nat.reduceEqDiff,Int.reduceLE,Int.reduceToNat,hz,Zn.ds,iD,hwr,t5,hlb]
 rw[←hlb,←hpb]
 refine dX (fun s H'=>H'=H++[pb,qb,lb]∧s 3= .ptr H.length 0 0 0∧s 4= .ptr (H.length+1) 0 0 0∧s 5= .ptr (H.length+2) 0 0 0∧s 7= .d (.list false (A.map Atom.enc))∧s 8=du s1∧s 9=iA k∧s 11=du z.rows) rfl ?_ ?_
 ·cases late
  case' false=>
   rw[if_neg (by simp)]at hs1
   simp -implicitDefEqProofs only[↓reduceIte,go_sem,ae,Nat.reduceAdd,Nat.reduceLT,Nat.reduceEqDiff,t8,t3,t4,hqb,hpb]
   refine ab.ok (hea _) ?_
   simp -implicitDefEqProofs only[↓reduceIte,go_sem,Nat.reduceLT,Nat.reduceEqDiff]
   refine ab.ok (fu _ _ hFk hel _) ?_
   simp -implicitDefEqProofs only[↓reduceIte,go_sem,Nat.reduceLT,Nat.reduceEqDiff,hs1]
  case' true=>
   have hrw:IntKind.u64.wrap (max rep 0)=(rep.toNat:Int):=by rw[bu _ (by omega) (by have:=hrep.2;omega)];omega
   rw[if_pos rfl]at hs1
   simp -implicitDefEqProofs only[go_sem]
   refine aR K.mixed (by kernel_rfl) ?_
   simp -implicitDefEqProofs only[↓reduceIte,go_sem,ae,Nat.reduceAdd,Nat.reduceLT,Nat.reduceLeDiff,Nat.reduceEqDiff,t5,t8,hlb,hrw]
   refine ab.ok (fu _ _ hFk (by have:=hrep.2;omega) _) ?_
   simp -implicitDefEqProofs only[↓reduceIte,go_sem,ae,Nat.reduceAdd,Nat.reduceLT,Nat.reduceEqDiff,t3,t4,t7,hqb,hpb]
   refine ab.ok (hla _) ?_
   simp -implicitDefEqProofs only[↓reduceIte,go_sem,Nat.reduceLT,Nat.reduceEqDiff]
   refine ab.ok (fu _ _ (eh _ _) hll _) ?_
   simp -implicitDefEqProofs only[↓reduceIte,go_sem,Nat.reduceLT,Nat.reduceEqDiff,hs1]
  all_goals simp -implicitDefEqProofs only[go_sem,t3,t4,t5,t7,t9,hqb,hpb,hlb]
 rintro s H' ⟨rfl,t3,t4,t5,t7,t8,t9,t11⟩
 simp -implicitDefEqProofs only[↓reduceIte,go_sem,ae,Nat.reduceAdd,Nat.reduceLT,t5,hlb]
 rw[←hlb]
 cases range
 case' true=>
  rw[if_pos rfl]at hsk
  simp -implicitDefEqProofs only[↓reduceIte,go_sem,Nat.reduceLT,Nat.reduceEqDiff,t9]
 case' false=>
  rw[if_neg (by simp)]at hsk
  simp -implicitDefEqProofs only[↓reduceIte,go_sem,ae,Nat.reduceAdd,Nat.reduceLT,Nat.reduceLeDiff,Nat.reduceEqDiff,t8,t11,t4,hqb,List.length_map,bu (q.aL.length:Int) (by omega) (by omega)]
  refine ab.ok (iQ _ _ (by omega) (by omega) _) ?_
  simp -implicitDefEqProofs only[↓reduceIte,go_sem,Nat.reduceLT,Nat.reduceEqDiff]
  refine ab.ok (fu _ _ hs1l (kU _ _) _) ?_
  simp -implicitDefEqProofs only[↓reduceIte,go_sem,Nat.reduceLT,Nat.reduceEqDiff,t9]
  rw[←hqb]
 all_goals
  refine⟨_,_,k+1,an.refl _ _,⟨hkg,rfl,?_⟩,by omega⟩
  simp -implicitDefEqProofs only[↓reduceIte,go_sem,Nat.reduceLT,Nat.reduceEqDiff,t3,t4,t5,t7,t8,hsk,wrap64_in ((k:Int)+1) (by omega) (by omega)]
theorem qp(H:aa):ah Tryz.prog 9 [] H (.ok (bA true)) H:=by
 refine ah.aj (hint:=(fun _=>false)) Tryz.func9 (by kernel_rfl) rfl [0] (by kernel_rfl) (by decide) (by simp[Tryz.ntmps9]) ?_
 rw[Tryz.ntmps9]
 simp -implicitDefEqProofs only[go_sem]
 refine ab.ok (fu 18446744073709551615 1 (by omega) (by omega) H) ?_
 simp -implicitDefEqProofs only[↓reduceIte,go_sem,Nat.reduceAdd,Nat.reduceLT,du,b6]
 refine ab.ok (iQ 1099511627776 1099511627776 (by omega) (by omega) H) ?_
 simp -implicitDefEqProofs only[↓reduceIte,go_sem,Nat.reduceMul,Nat.reduceLT,Nat.reduceEqDiff,du,dQ]
 refine ab.ok (iQ 3 4 (by omega) (by omega) H) ?_
 simp -implicitDefEqProofs only[↓reduceIte,go_sem,Nat.reduceAdd,Nat.reduceMul,Nat.reduceLT,Nat.reduceLeDiff,Nat.reduceEqDiff,du,dQ]
 refine ab.sub (.cons (.agg (.cons (.refl _) (.cons (.refl _) (.cons .nil (.cons (.refl _) (.cons (.refl _) (.cons .nil (.cons (.refl _) (.cons (.refl _) .nil))))))))) .nil) (pI [2,2] [] [] _ _ _ _ _ false true false (by decide) (by decide) (by decide) H) ?_
 simp -implicitDefEqProofs only[↓reduceIte,go_sem,Nat.reduceLT,Nat.reduceEqDiff,show nW [2,2] [] []=[2]from by decide,ints]
 refine ao.aF ?_
 simp -implicitDefEqProofs only[↓reduceIte,go_sem,Nat.reduceLT]
theorem Aq{b c:Nat}{d:D}(hc:0<c)(h:Fits (.slice b [.slice c rT]) d):∃R:List (List ak),d= .list false (b9 R)∧R.length* b≤140737488351232∧∀r∈R,r.length* c≤140737488351232∧∀v∈r,v.Ok:=by
 obtain⟨l,rfl,h1,h2⟩:=Fits.e8 h
 obtain⟨la,rfl,h3⟩:=gU (enc:=cS) (p:=fun r=>r.length* c≤140737488351232∧∀v∈r,v.Ok) fun e he=>by
  obtain⟨x,xs,rfl,hx,h⟩:=aU.cons_inv (h2 e he)
  cases aU.fR h
  obtain⟨r,rfl,hl,hr⟩:=Bk hx
  exact⟨r,rfl,hl,hr⟩
 exact⟨la,rfl,by simpa using h1,h3⟩
structure ve (R:List (List ak)):Prop where
 len:R.length≤100000000000000
 row:∀r∈R,r.length≤100000000000000
 val:∀r∈R,∀v∈r,v.Ok
theorem mP{d:D}(h:Fits (.slice 24 [.slice 32 rT]) d):∃R:List (List ak),d= .list false (b9 R)∧ve R:=by
 obtain⟨R,rfl,hl,hn⟩:=Aq (by decide) h
 exact⟨R,rfl,by omega,fun r hr=>by have:=(hn r hr).1;omega,fun r hr=>(hn r hr).2⟩
structure gI where
 rows:List (List ak)
 kinds:List Int
 aE:List Int
 key:List Int
def gI.ds(t:gI):List D:=[.list false (b9 t.rows),.list false (ints t.kinds),.list false (ints t.aE),.list false (ints t.key)]
def gI.av(t:gI):AV:= .agg (t.ds.map .d)
structure gI.Ok (t:gI):Prop where
 rows:ve t.rows
 kinds:t.kinds.length≤100000000000000
 aE:t.aE.length≤100000000000000
 key:t.key.length≤100000000000000
def nM(t:gI):Prop:=cu 400 30000 t.rows=false∨20<t.aE.length∨20<t.key.length
instance (t:gI):Decidable (nM t):=by unfold nM;infer_instance
def vj(t:gI):Pj×Bool:=if nM t then(Ga,false)else((ku t.rows t.kinds t.aE t.key 0).1,decide ((ku t.rows t.kinds t.aE t.key 0).2=0))
theorem y1(t:gI)(ht:t.Ok)(H:aa):ah Tryz.prog 10 [t.av] H (.ok (.bq [(vj t).1.av,bA (vj t).2])) H:=by
 have hfw:=fun H=>uY t.rows false ht.rows.len ht.rows.row (fun r hr v hv=>(ht.rows.val r hr v hv).s) H
 unfold vj
 have hb:nM t↔cu 400 30000 t.rows=false∨20<(t.aE.length:Int)∨20<(t.key.length:Int):=or_congr Iff.rfl (or_congr (by omega) (by omega))
 by_cases h:nM t
 ·rw[if_pos h]
  refine ah.jW (cs:=[.agg ea,bA false]) ?_ (.cons mQ (.cons (.refl _) .nil))
  rw[hb]at h
  generalize cu 400 30000 t.rows=fw at*
  refine ah.cG (hint:=fun _=>false) Tryz.func10 (by kernel_rfl) rfl [.cell 2 36,.tmp 3] (by kernel_rfl) (by simp[Tryz.ntmps10]) ?_
  rw[Tryz.ntmps10]
  simp -implicitDefEqProofs only[↓reduceIte,go_sem,ae,Nat.reduceAdd,Nat.reduceLT,Nat.reduceLeDiff,Nat.reduceEqDiff,gI.av,gI.ds]
  refine ab.ok (hfw _) ?_
  cases fw
  case' true=>
   by_cases h2:20<(t.aE.length:Int)
   case' neg=>have h3:20<(t.key.length:Int):=by rcases h with h|h|h;cases h;exact absurd h h2;exact h
  all_goals
   simp -implicitDefEqProofs only[↓reduceIte,go_sem,ae,aw,Nat.reduceAdd,Nat.reduceLT,Nat.reduceLeDiff,Nat.reduceEqDiff,reduceCtorEq,az, *]
   refine cY.ret ?_
   simp -implicitDefEqProofs only[↓reduceIte,go_sem,ae,Nat.reduceAdd,Nat.reduceLT,Nat.reduceLeDiff,Nat.reduceEqDiff,bR,cZ,ea]
 ·rw[if_neg h]
  have hf:cu 400 30000 t.rows=true:=by cases e:cu 400 30000 t.rows;exact absurd (hb.2 (.inl e)) h;rfl
  obtain⟨hr1,hr2⟩:=kq hf
  have h2:¬20<(t.aE.length:Int):=fun e=>h (hb.2 (.inr (.inl e)))
  have h3:¬20<(t.key.length:Int):=fun e=>h (hb.2 (.inr (.inr e)))
  have hmk:=fun H=>vG t.rows t.kinds t.aE t.key 0 false false false false H (by omega) (fun r hr=>by have:=hr2 r hr;omega) ht.kinds (by omega) (by omega) (fun r hr v hv=>(ht.rows.val r hr v hv).i)
  rw[hf]at hfw
  generalize ku t.rows t.kinds t.aE t.key 0=mk at*
  obtain⟨⟨cs,key,rows,S⟩,e⟩:=mk
  refine ah.cG (hint:=fun _=>false) Tryz.func10 (by kernel_rfl) rfl [.cell 2 36,.tmp 3] (by kernel_rfl) (by simp[Tryz.ntmps10]) ?_
  rw[Tryz.ntmps10]
  simp -implicitDefEqProofs only[↓reduceIte,go_sem,ae,Nat.reduceAdd,Nat.reduceLT,Nat.reduceLeDiff,Nat.reduceEqDiff,gI.av,gI.ds]
  refine ab.ok (hfw _) ?_
  simp -implicitDefEqProofs only[↓reduceIte,go_sem,ae,Nat.reduceAdd,Nat.reduceLT,Nat.reduceLeDiff,Nat.reduceEqDiff,reduceCtorEq,az,h2,h3]
  refine ab.ok (hmk _) ?_
  simp -implicitDefEqProofs only[↓reduceIte,go_sem,ae,aw,Nat.reduceAdd,Nat.reduceLT,Nat.reduceEqDiff,Pj.av,Pj.ds]
  refine cY.ret ?_
  simp -implicitDefEqProofs only[↓reduceIte,go_sem,ae,Nat.reduceAdd,Nat.reduceLT,Nat.reduceLeDiff,Nat.reduceEqDiff,bR,cZ]
theorem xR{t:gI}(h:(vj t).2=true):jP t.rows t.kinds t.aE t.key 0 (vj t).1∧t.aE.length≤20∧t.rows.length≤400:=by
 unfold vj at h⊢
 by_cases hb:nM t
 ·rw[if_pos hb]at h;cases h
 ·rw[if_neg hb]at h⊢
  refine⟨uG (of_decide_eq_true h),?_,?_⟩
  ·unfold nM at hb;omega
  ·have:cu 400 30000 t.rows=true:=by cases e:cu 400 30000 t.rows;exact absurd (.inl e) hb;rfl
   exact(kq this).1
theorem Cl{x:AV}(h:jm Tryz.prog 25 x):∃t:gI,x=t.av∧t.Ok:=by
 obtain⟨ds,rfl,hf⟩:=rj h K.CN (shs:=[.slice 24 [.slice 32 rT],.slice 8 [.int .i64],.slice 8 [.int .i64],.slice 8 [.int .i64]]) (by kernel_rfl)
 obtain⟨d0,ds,rfl,h0,hf⟩:=aU.cons_inv hf
 obtain⟨d1,ds,rfl,h1,hf⟩:=aU.cons_inv hf
 obtain⟨d2,ds,rfl,h2,hf⟩:=aU.cons_inv hf
 obtain⟨d3,ds,rfl,h3,hf⟩:=aU.cons_inv hf
 cases aU.fR hf
 obtain⟨R,rfl,hR⟩:=mP h0
 obtain⟨ks,rfl,hk,_⟩:=iN h1
 obtain⟨cs,rfl,hc,_⟩:=iN h2
 obtain⟨key,rfl,hy,_⟩:=iN h3
 exact⟨⟨R,ks,cs,key⟩,rfl,hR,by simp only;omega,by simp only;omega,by simp only;omega⟩
structure Zn.pK (z:Zn):Prop where
 mn:z.mn.s.size≤140737488351232
 mx:z.mx.s.size≤140737488351232
theorem ka(z:Zn)(hz:z.pK)(a:Atom)(H:aa):ah Tryz.prog 102 [z.av,a.av] H (.ok (bA (fz z a))) H:=by
 have h5:=fun H=>mf z.mn a.val (by have:=hz.mn;omega) H
 have h6:=fun H=>mf z.mx a.val (by have:=hz.mx;omega) H
 unfold fz uv
 have a1:∀x y:ak,decide (aN x y<0)=decide (0<aN y x):=fun x y=>decide_eq_decide.2 (dP.fg x y)
 rw[a1 a.val z.mn,a1 a.val z.mx]
 generalize aN z.mn a.val=c5 at*
 generalize aN z.mx a.val=c6 at*
 obtain⟨ac,o,av⟩:=a
 simp only at h5 h6⊢
 refine ah.aj (hint:=(fun _=>false)) Tryz.func102 (by kernel_rfl) rfl [4] (by kernel_rfl) (by decide) (by simp[Tryz.ntmps102]) ?_
 rw[Tryz.ntmps102]
 simp -implicitDefEqProofs only[↓reduceIte,go_sem,ae,Nat.reduceAdd,Nat.reduceLT,Nat.reduceLeDiff,Nat.reduceEqDiff]
 by_cases o7:o=7
 ·simp -implicitDefEqProofs only[↓reduceIte,go_sem,ae,Nat.reduceAdd,Nat.reduceLT,Nat.reduceLeDiff,Nat.reduceEqDiff,o7,rf]
  refine ao.ret ?_
  simp -implicitDefEqProofs only[↓reduceIte,go_sem,Nat.reduceLT]<;>simp[*]
 by_cases hb:z.rows≤z.cj
 ·simp -implicitDefEqProofs only[↓reduceIte,go_sem,ae,Nat.reduceAdd,Nat.reduceLT,Nat.reduceLeDiff,Nat.reduceEqDiff,o7,hb]
  refine ao.ret ?_
  simp -implicitDefEqProofs only[↓reduceIte,go_sem,Nat.reduceLT]<;>simp[*]
 by_cases o8:o=8
 ·simp -implicitDefEqProofs only[↓reduceIte,go_sem,ae,Nat.reduceAdd,Nat.reduceLT,Nat.reduceLeDiff,Nat.reduceEqDiff,Int.reduceEq,o8,hb]
  refine ao.ret ?_
  simp -implicitDefEqProofs only[↓reduceIte,go_sem,Nat.reduceLT]<;>simp[*]
 by_cases hk:z.mn.kind=av.kind
 case neg=>
  simp -implicitDefEqProofs only[↓reduceIte,go_sem,ae,Nat.reduceAdd,Nat.reduceLT,Nat.reduceLeDiff,Nat.reduceEqDiff,o7,o8,hb,hk]
  refine ao.ret ?_
  simp -implicitDefEqProofs only[↓reduceIte,go_sem,Nat.reduceLT]<;>simp[*]
 simp -implicitDefEqProofs only[↓reduceIte,go_sem,ae,Nat.reduceAdd,Nat.reduceLT,Nat.reduceLeDiff,Nat.reduceEqDiff,o7,o8,hb,eq_true hk]
 refine ab.ok (h5 _) ?_
 simp -implicitDefEqProofs only[↓reduceIte,go_sem,ae,Nat.reduceAdd,Nat.reduceLT,Nat.reduceEqDiff]
 refine ab.ok (h6 _) ?_
 simp -implicitDefEqProofs only[↓reduceIte,go_sem,ae,Nat.reduceAdd,Nat.reduceLT,Nat.reduceLeDiff,Nat.reduceEqDiff]
 by_cases o1:o=1
 ·by_cases e:0<c5
  all_goals
   simp -implicitDefEqProofs only[↓reduceIte,go_sem,Nat.reduceLT,Nat.reduceEqDiff,Int.reduceEq,reduceCtorEq,o1,e]
   refine ao.ret ?_
   simp -implicitDefEqProofs only[↓reduceIte,go_sem,Nat.reduceLT]<;>simp[*]
 by_cases o2:o=2
 ·by_cases e:c5=0
  all_goals
   simp -implicitDefEqProofs only[↓reduceIte,go_sem,Nat.reduceLT,Nat.reduceEqDiff,Int.reduceEq,reduceCtorEq,o2,e]
   refine ao.ret ?_
   simp -implicitDefEqProofs only[↓reduceIte,go_sem,Nat.reduceLT]<;>simp[*]
 by_cases o3:o=3
 case' neg=>
  by_cases o4:o=4
  case' neg=>
   by_cases o5:o=5
   case' neg=>by_cases o6:o=6
 all_goals
  simp -implicitDefEqProofs only[↓reduceIte,go_sem,Nat.reduceLT,Nat.reduceEqDiff,Int.reduceEq, *]
  refine ao.ret ?_
  simp -implicitDefEqProofs only[↓reduceIte,go_sem,Nat.reduceLT]<;>simp[*]<;>first|omega|(rw[Bool.eq_iff_iff];simp<;>omega)
theorem tr(z:Zn)(hz:z.pK)(a:Atom)(H:aa):ah Tryz.prog 145 [z.av,a.av] H (.ok (bA (kj z a))) H:=by
 have he:=fun H=>ka z hz ⟨a.eo,ij a.op,a.val⟩ H
 unfold kj
 obtain⟨ac,o,av⟩:=a
 simp only at he⊢
 have hto:ij o=0↔o<1∨6<o:=by unfold ij;repeat' split<;>omega
 refine ah.aj (hint:=(fun _=>false)) Tryz.func145 (by kernel_rfl) rfl [4] (by kernel_rfl) (by decide) (by simp[Tryz.ntmps145]) ?_
 rw[Tryz.ntmps145]
 simp -implicitDefEqProofs only[↓reduceIte,go_sem,ae,Nat.reduceAdd,Nat.reduceLT,Nat.reduceLeDiff,Nat.reduceEqDiff]
 by_cases o7:o=7
 ·simp -implicitDefEqProofs only[↓reduceIte,go_sem,ae,Nat.reduceAdd,Nat.reduceLT,Nat.reduceLeDiff,Nat.reduceEqDiff,o7]
  refine ao.ret ?_
  simp -implicitDefEqProofs only[↓reduceIte,go_sem,Nat.reduceLT,o7]
 by_cases o8:o=8
 ·simp -implicitDefEqProofs only[↓reduceIte,go_sem,ae,Nat.reduceAdd,Nat.reduceLT,Nat.reduceLeDiff,Nat.reduceEqDiff,Int.reduceEq,o8,rf]
  refine ao.ret ?_
  simp -implicitDefEqProofs only[↓reduceIte,go_sem,Nat.reduceLT,Int.reduceEq,o8]
 by_cases hn:0<(z.cj:Int)
 ·simp -implicitDefEqProofs only[↓reduceIte,go_sem,ae,Nat.reduceAdd,Nat.reduceLT,Nat.reduceLeDiff,Nat.reduceEqDiff,o7,o8,hn]
  refine ao.ret ?_
  rw[if_neg o7,if_neg o8,if_pos (.inr (.inl (by omega)))]
  simp -implicitDefEqProofs only[↓reduceIte,go_sem,Nat.reduceLT]
 by_cases hk:z.mn.kind=av.kind
 case neg=>
  simp -implicitDefEqProofs only[↓reduceIte,go_sem,ae,Nat.reduceAdd,Nat.reduceLT,Nat.reduceLeDiff,Nat.reduceEqDiff,reduceCtorEq,o7,o8,hn,hk]
  refine ao.ret ?_
  rw[if_neg o7,if_neg o8,if_pos (.inr (.inr hk))]
  simp -implicitDefEqProofs only[↓reduceIte,go_sem,Nat.reduceLT]
 by_cases h1:o<1
 ·simp -implicitDefEqProofs only[↓reduceIte,go_sem,ae,Nat.reduceAdd,Nat.reduceLT,Nat.reduceLeDiff,Nat.reduceEqDiff,reduceCtorEq,o7,o8,hn,eq_true hk,h1]
  refine ao.ret ?_
  rw[if_neg o7,if_neg o8,if_pos (.inl (hto.2 (.inl h1)))]
  simp -implicitDefEqProofs only[↓reduceIte,go_sem,Nat.reduceLT]
 by_cases h6:6<o
 ·simp -implicitDefEqProofs only[↓reduceIte,go_sem,ae,Nat.reduceAdd,Nat.reduceLT,Nat.reduceLeDiff,Nat.reduceEqDiff,reduceCtorEq,o7,o8,hn,eq_true hk,h1,h6]
  refine ao.ret ?_
  rw[if_neg o7,if_neg o8,if_pos (.inl (hto.2 (.inr h6)))]
  simp -implicitDefEqProofs only[↓reduceIte,go_sem,Nat.reduceLT]
 have htn:¬ij o=0:=fun h=>by rcases hto.1 h with h|h<;>omega
 rw[if_neg o7,if_neg o8,if_neg (by rintro(h|h|h);exact htn h;omega;exact h hk)]
 generalize hg:ij o=t at*
 generalize fz z ⟨ac,t,av⟩=e at*
 simp -implicitDefEqProofs only[↓reduceIte,go_sem,ae,Nat.reduceAdd,Nat.reduceLT,Nat.reduceLeDiff,Nat.reduceEqDiff,reduceCtorEq,o7,o8,hn,eq_true hk,h1,h6]
 obtain⟨n,rfl⟩:=Int.eq_ofNat_of_zero_le (show 0≤o by omega)
 rcases n with _|_|_|_|_|_|_|n
 ·omega
 case succ.succ.succ.succ.succ.succ.succ=>omega
 all_goals
  simp -implicitDefEqProofs only[↓reduceIte,go_sem,ae,aw,Nat.reduceAdd,Nat.reduceLT,Nat.reduceLeDiff,Nat.reduceEqDiff,Int.reduceLE,Int.reduceEq,Int.reduceToNat]
  refine ab.ok (by rw[←hg]at he;exact he _) ?_
  simp -implicitDefEqProofs only[↓reduceIte,go_sem,Nat.reduceAdd,Nat.reduceLT,Int.reduceEq]
  refine ao.ret ?_
  simp -implicitDefEqProofs only[↓reduceIte,go_sem,Nat.reduceLT]
theorem wM(z:Zn)(hz:z.pK)(a:Atom)(hr:z.rows≤1000000000)(H:aa):ah Tryz.prog 105 [z.av,a.av] H (.ok (iA (iO z a))) H:=by
 have h1:=fun H=>ka z hz a H
 have h2:=fun H=>tr z hz a H
 unfold iO
 generalize fz z a=b1 at*
 generalize kj z a=b2 at*
 refine ah.aj (hint:=(fun _=>false)) Tryz.func105 (by kernel_rfl) rfl [4] (by kernel_rfl) (by decide) (by simp[Tryz.ntmps105]) ?_
 rw[Tryz.ntmps105]
 simp -implicitDefEqProofs only[↓reduceIte,go_sem,ae,Nat.reduceAdd,Nat.reduceLT,Nat.reduceEqDiff]
 refine ab.ok (h1 _) ?_
 cases b1
 case' false=>
  simp -implicitDefEqProofs only[↓reduceIte,go_sem,ae,Nat.reduceAdd,Nat.reduceLT,Nat.reduceEqDiff]
  refine ab.ok (h2 _) ?_
  cases b2
  case' false=>
   have hw1:IntKind.i64.wrap (((z.rows/2:Nat):Int)+1)=((z.rows/2:Nat):Int)+1:=wrap64_in _ (by omega) (by omega)
   have he:IntKind.i64.wrap ((z.rows:Int).tdiv 2)=((z.rows/2:Nat):Int):=by rw[Int.tdiv_eq_ediv_of_nonneg (by omega),wrap64_in _ (by omega) (by omega)];omega
   generalize hq:z.rows/2=q at*
   by_cases hm:(z.rows:Int).tmod 2=1
   case' pos=>have hr2:z.rows%2=1:=by rw[Int.tmod_eq_emod_of_nonneg (by omega)]at hm;omega
   case' neg=>have hr2:z.rows%2=0:=by rw[Int.tmod_eq_emod_of_nonneg (by omega)]at hm;omega
   all_goals simp -implicitDefEqProofs only[↓reduceIte,go_sem,ae,Nat.reduceAdd,Nat.reduceLT,Nat.reduceLeDiff,Nat.reduceEqDiff,Int.reduceEq,he,hm]
 all_goals
  simp -implicitDefEqProofs only[↓reduceIte,go_sem,ae,Nat.reduceAdd,Nat.reduceLT,Nat.reduceLeDiff,Nat.reduceEqDiff]
  refine ao.ret ?_
  simp -implicitDefEqProofs only[↓reduceIte,go_sem,Nat.reduceLT,reduceCtorEq, *]<;>simp[*]
structure Pj.pK (p:Pj):Prop where
 str:∀l∈p.bk,∀s∈l,s.ew.pK
theorem Pj.pK.ew{p:Pj}(hp:p.pK){n:Int}{z:Zn}(h:z∈aJ p.bk n):z.pK:=by
 unfold aJ at h
 split at h
 ·cases h
 ·obtain⟨l,hl,rfl⟩:=List.mem_map.1 h
  unfold cz
  rw[List.getD_eq_getElem?_getD,List.getElem?_map]
  cases e:l[n.toNat]? with
  |none=>exact⟨by decide,by decide⟩
  |some s=>exact hp.str l hl s (List.mem_of_getElem? e)
theorem kp(p:Pj)(H:aa):ah Tryz.prog 50 [p.av] H (.ok (iA (bn p.bk))) H:=by
 obtain⟨cs,key,rows,S⟩:=p
 refine ah.aj (hint:=(fun _=>false)) Tryz.func50 (by kernel_rfl) rfl [2] (by kernel_rfl) (by decide) (by simp[Tryz.ntmps50]) ?_
 rw[Tryz.ntmps50]
 cases S with
 |nil=>
  simp -implicitDefEqProofs only[↓reduceIte,go_sem,ae,Nat.reduceAdd,Nat.reduceLT,Nat.reduceEqDiff,Pj.av,Pj.ds,bC]
  refine ao.ret ?_
  simp -implicitDefEqProofs only[↓reduceIte,go_sem,Nat.reduceLT,bn]
 |cons l S=>
  simp -implicitDefEqProofs only[↓reduceIte,go_sem,ae,Nat.reduceAdd,Nat.reduceLT,Nat.reduceEqDiff,Int.reduceLE,Int.reduceToNat,Pj.av,Pj.ds,bC,show ¬((S.length:Int)+1=0) by omega]
  refine ao.ret ?_
  simp -implicitDefEqProofs only[↓reduceIte,go_sem,Nat.reduceLT,bn]
theorem tI(p:Pj)(hp:p.aE.length≤1000000000)(x:Int)(H:aa):ah Tryz.prog 101 [p.av,iA x] H (.ok (iA (cC x p.aE))) H:=by
 obtain⟨l,key,rows,S⟩:=p
 simp only at hp⊢
 refine ah.aj (hint:=(fun _=>false)) Tryz.func101 (by kernel_rfl) rfl [4] (by kernel_rfl) (by decide) (by simp[Tryz.ntmps101]) ?_
 rw[Tryz.ntmps101]
 simp -implicitDefEqProofs only[↓reduceIte,go_sem,Nat.reduceAdd,Nat.reduceLT,Int.reduceNeg,Pj.av,Pj.ds]
 refine aP (fun k s H'=>H'=H++[.box 45 4 0 1 [.d (.list false (ints l)),.d (.list false (ints key)),iA rows,.d (.list false (bC S))]]∧(∀i (hi:i<k) (hl:i<l.length),¬l[i]=x)∧s 1=iA x∧s 2= .ptr H.length 0 0 0∧s 5=iA k) l.length (by omega) (an.refl _ _) ?_ ?_ ?_
 ·refine⟨rfl,fun i hi=>by omega,?_⟩
  simp -implicitDefEqProofs only[↓reduceIte,go_sem,Nat.reduceLT,Nat.reduceEqDiff]
 ·rintro k s H' hk hw ⟨rfl,hp,t1,t2,t5⟩
  have hx:=b5 l k hk
  have hit:l[k]=x→cC x l=k:=fun e=>by rw[←e];exact nQ hk fun i hi hl'=>by rw[e];exact hp i hi hl'
  have hpp:¬l[k]=x→∀i (hi:i<k+1) (hl:i<l.length),¬l[i]=x:=fun h0 i hi hl'=>by
   rcases Nat.lt_or_ge i k with h|h
   ·exact hp i h hl'
   ·obtain rfl:i=k:=by omega
    exact h0
  generalize l[k]=y at*
  by_cases hy:y=x
  ·simp -implicitDefEqProofs only[↓reduceIte,go_sem,ae,Nat.reduceAdd,Nat.reduceLT,Nat.reduceLeDiff,Nat.reduceEqDiff,t1,t2,t5,az,hk,hx,hy]
   refine ao.ret ?_
   simp -implicitDefEqProofs only[↓reduceIte,go_sem,Nat.reduceLT,hit hy]
  ·simp -implicitDefEqProofs only[↓reduceIte,go_sem,ae,Nat.reduceAdd,Nat.reduceLT,Nat.reduceLeDiff,Nat.reduceEqDiff,t1,t2,t5,az,hk,hx,hy]
   refine cO.same ⟨rfl,hpp hy,?_⟩
   simp -implicitDefEqProofs only[↓reduceIte,go_sem,Nat.reduceLT,Nat.reduceEqDiff,t1,t2,hw]
 ·rintro s H' ⟨rfl,hp,t1,t2,t5⟩
  simp -implicitDefEqProofs only[↓reduceIte,go_sem,ae,Nat.reduceAdd,Nat.reduceLT,Nat.reduceLeDiff,Nat.reduceEqDiff,Int.reduceNeg,t2,t5,az]
  refine ao.ret ?_
  simp -implicitDefEqProofs only[↓reduceIte,go_sem,Nat.reduceLT,Int.reduceNeg,lR fun i hi=>hp i hi hi]
theorem mo(p:Pj)(hp:p.Ok)(n:Int)(hn:fV n)(H:aa):ah Tryz.prog 54 [p.av,iA n] H (.ok (.d (.list false ((aJ p.bk n).map Zn.ds)))) H:=by
 have hg:=fun H=>kp p H
 have hm:=hp.many
 have hl:=hp.len
 have hs:=hp.same
 unfold aJ
 by_cases h:n<0∨(bn p.bk:Int)≤n
 ·rw[if_pos h]
  suffices hh:ah Tryz.prog 54 [p.av,iA n] H (.ok (.d (.v (.slice none 0 0)))) H from hh.Eo .nil
  have hS0:p.bk.length=0→bn p.bk=0:=fun e=>by rw[List.eq_nil_of_length_eq_zero e];rfl
  obtain⟨cs,key,rows,S⟩:=p
  simp only at*
  generalize bn S=g at*
  refine ah.aj (hint:=(fun _=>false)) Tryz.func54 (by kernel_rfl) rfl [4] (by kernel_rfl) (by decide) (by simp[Tryz.ntmps54]) ?_
  rw[Tryz.ntmps54]
  simp -implicitDefEqProofs only[↓reduceIte,go_sem,Nat.reduceAdd,Nat.reduceLT,Pj.av,Pj.ds]
  refine aP (fun k s H'=>k=0∧H'=H++[.box 45 4 0 1 [.d (.list false (ints cs)),.d (.list false (ints key)),iA rows,.d (.list false (bC S))]]∧s 1=iA n∧s 2= .ptr H.length 0 0 0∧s 5= .d (.v (.slice none 0 0))∧s 6=iA 0) 0 (by omega) (an.refl _ _) ?_ ?_ ?_
  ·refine⟨rfl,rfl,?_⟩
   simp -implicitDefEqProofs only[↓reduceIte,go_sem,Nat.reduceLT,Nat.reduceEqDiff]
  ·intro k s H' hk;omega
  ·rintro s H' ⟨_,rfl,t1,t2,t5,t6⟩
   by_cases h0:0<(S.length:Int)
   case' neg=>simp -implicitDefEqProofs only[↓reduceIte,go_sem,ae,Nat.reduceAdd,Nat.reduceLT,Nat.reduceEqDiff,reduceCtorEq,t2,t6,cV,h0,t5]
   case' pos=>
    by_cases h1:0≤n
    case' neg=>simp -implicitDefEqProofs only[↓reduceIte,go_sem,ae,Nat.reduceAdd,Nat.reduceLT,Nat.reduceEqDiff,reduceCtorEq,t1,t2,t6,cV,h0,h1,t5]
    case' pos=>
     simp -implicitDefEqProofs only[↓reduceIte,go_sem,ae,Nat.reduceAdd,Nat.reduceLT,Nat.reduceEqDiff,t1,t2,t6,cV,h0,h1]
     refine ab.ok (hg _) ?_
     simp -implicitDefEqProofs only[↓reduceIte,go_sem,Nat.reduceLT,Nat.reduceEqDiff,show ¬n<(g:Int) by omega,t5]
   all_goals
    refine ao.ret ?_
    simp -implicitDefEqProofs only[↓reduceIte,go_sem,Nat.reduceLT]
 rw[if_neg h]
 obtain⟨k,rfl⟩:=Int.eq_ofNat_of_zero_le (show 0≤n by omega)
 obtain⟨cs,key,rows,S⟩:=p
 simp only at*
 generalize bn S=g at*
 refine ah.aj (hint:=(fun _=>false)) Tryz.func54 (by kernel_rfl) rfl [4] (by kernel_rfl) (by decide) (by simp[Tryz.ntmps54]) ?_
 rw[Tryz.ntmps54]
 simp -implicitDefEqProofs only[↓reduceIte,go_sem,Nat.reduceAdd,Nat.reduceLT,Pj.av,Pj.ds]
 refine aP (fun j s H'=>H'=H++[.box 45 4 0 1 [.d (.list false (ints cs)),.d (.list false (ints key)),iA rows,.d (.list false (bC S))],.arr 102 8 j (((S.take j).map fun l=>cz l k).map Zn.ds)]∧s 1=iA k∧s 2= .ptr H.length 0 0 0∧s 5= .sl (H.length+1) j 0 j∧s 6=iA j) S.length (by omega) (an.fy _ _ 5 102 8 (by decide) (by simp -implicitDefEqProofs only[↓reduceIte,go_sem,Nat.reduceLT,Nat.reduceEqDiff]) _) ?_ ?_ ?_
 ·refine⟨?_,?_⟩
  ·simp -implicitDefEqProofs only[go_sem,List.take_zero]
  ·simp -implicitDefEqProofs only[↓reduceIte,go_sem,Nat.reduceLT,Nat.reduceEqDiff]
 ·rintro j s H' hj hw ⟨rfl,t1,t2,t5,t6⟩
  have hx:=lO hj
  have hlj:=hs S[j] (List.getElem_mem hj)
  have e1:((S.take (j+1)).map fun l=>cz l k).map Zn.ds=((S.take j).map fun l=>cz l k).map Zn.ds++[(cz S[j] k).ds]:=by rw[List.take_succ_eq_append_getElem hj,List.map_append,List.map_append];rfl
  have e2:(((S.take j).map fun l=>cz l k).map Zn.ds).length=j:=by simp;omega
  have hk:k<S[j].length:=by omega
  have hz:(S[j].map Sg.ds)[k]?=some S[j][k].ds:=by simp[hk]
  have hze:cz S[j] k=S[j][k].ew:=by simp[cz,hk]
  rw[e1,hze]
  generalize ((S.take j).map fun l=>cz l k).map Zn.ds=Z at*
  generalize S[j][k]=sg at*
  generalize S[j]=l at*
  obtain⟨sk,sw,⟨zr,zn,mn,mx⟩,ns,bd⟩:=sg
  simp -implicitDefEqProofs only[↓reduceIte,go_sem,ae,Nat.reduceAdd,Nat.reduceLT,Nat.reduceEqDiff,t1,t2,t6,cV,hj,show(0:Int)≤(k:Int) by omega]
  refine ab.ok (hg _) ?_
  simp -implicitDefEqProofs only[↓reduceIte,go_sem,ae,Nat.reduceAdd,Nat.reduceLT,Nat.reduceLeDiff,Nat.reduceEqDiff,show(k:Int)<(g:Int) by omega,t1,t2,t5,t6,hx,hz,Sg.ds,iD,e2]
  refine⟨by omega,by omega,cO.same ⟨rfl,?_⟩⟩
  simp -implicitDefEqProofs only[↓reduceIte,go_sem,Nat.reduceLT,Nat.reduceEqDiff,t1,t2,hw]
 ·rintro s H' ⟨rfl,t1,t2,t5,t6⟩
  rw[List.take_length]at*
  simp -implicitDefEqProofs only[↓reduceIte,go_sem,ae,Nat.reduceAdd,Nat.reduceLT,Nat.reduceEqDiff,reduceCtorEq,t2,t5,t6,cV]
  refine ao.ret ?_
  simp -implicitDefEqProofs only[↓reduceIte,go_sem,Nat.reduceLT,List.take_of_length_le (show((S.map fun l=>cz l k).map Zn.ds).length≤S.length by simp)]
theorem rU(p:Pj)(hp:p.Ok)(hps:p.pK)(l:List Atom)(n1:Bool)(hl:l.length≤1000000000)(n:Int)(hn:fV n)(H:aa):ah Tryz.prog 51 [p.av,.d (.list n1 (l.map Atom.enc)),iA n] H (.ok (bA (gR p (aJ p.bk n) l))) H:=by
 have hg:=fun H=>mo p hp n hn H
 have hZ:(aJ p.bk n).length≤1000000000:=by unfold aJ;split;simp;simp;exact hp.len
 have hzs:∀z∈aJ p.bk n,z.pK:=fun z hz=>hps.ew hz
 generalize aJ p.bk n=Z at*
 have hpl:=fun c H=>tI p hp.aE c H
 have hpc:=fun c=>qk c p.aE
 have hcl:=hp.aE
 unfold gR
 generalize hpr:(fun a:Atom=>decide (0≤cC a.eo p.aE∧cC a.eo p.aE<Z.length)&&fz (Z.getD (cC a.eo p.aE).toNat jD) a)=pr
 have hpa:∀a,pr a=(decide (0≤cC a.eo p.aE∧cC a.eo p.aE<Z.length)&&fz (Z.getD (cC a.eo p.aE).toNat jD) a):=fun a=>by rw[←hpr]
 clear hpr
 obtain⟨pb,hpb⟩:∃pb,pb=aA.box 45 4 0 1 [.d (.list false (ints p.aE)),.d (.list false (ints p.key)),iA p.rows,.d (.list false (bC p.bk))]:=⟨_,rfl⟩
 refine ah.aj (hint:=(fun _=>false)) Tryz.func51 (by kernel_rfl) rfl [6] (by kernel_rfl) (by decide) (by simp[Tryz.ntmps51]) ?_
 rw[Tryz.ntmps51]
 simp -implicitDefEqProofs only[↓reduceIte,go_sem,ae,Nat.reduceAdd,Nat.reduceLT,Nat.reduceEqDiff,Pj.av,Pj.ds]
 refine ab.ok (hg _) ?_
 simp -implicitDefEqProofs only[↓reduceIte,go_sem,Nat.reduceLT]
 rw[←hpb]
 refine aP (fun k s H'=>H'=H++[pb]∧(∀i (hi:i<k) (hl:i<l.length),pr l[i]=false)∧s 1= .d (.list n1 (l.map Atom.enc))∧s 3= .ptr H.length 0 0 0∧s 7= .d (.list false (Z.map Zn.ds))∧s 8=iA k) l.length (by omega) (an.refl _ _) ?_ ?_ ?_
 ·refine⟨rfl,fun i hi=>by omega,?_⟩
  simp -implicitDefEqProofs only[↓reduceIte,go_sem,Nat.reduceLT,Nat.reduceEqDiff]
 ·rintro k s H' hk hw ⟨rfl,hp0,t1,t3,t7,t8⟩
  have hx:(l.map Atom.enc)[k]?=some l[k].enc:=by simp[hk]
  have hit:pr l[k]=true→l.any pr=true:=fun h=>xu hk h
  have hpp:pr l[k]=false→∀i (hi:i<k+1) (hl:i<l.length),pr l[i]=false:=fun h0 i hi hl'=>by
   rcases Nat.lt_or_ge i k with h|h
   ·exact hp0 i h hl'
   ·obtain rfl:i=k:=by omega
    exact h0
  have hpk:=hpa l[k]
  have hic:=hpc l[k].eo
  generalize l[k]=a at*
  have hpl:=hpl a.eo
  generalize cC a.eo p.aE=i at*
  simp -implicitDefEqProofs only[↓reduceIte,go_sem,Nat.reduceLT,Nat.reduceEqDiff,t1,t8,List.length_map,hk]
  refine aR K.mixed (by kernel_rfl) ?_
  simp -implicitDefEqProofs only[↓reduceIte,go_sem,ae,Nat.reduceAdd,Nat.reduceLT,Nat.reduceLeDiff,Nat.reduceEqDiff,t1,t3,t8,hx,Atom.enc,hpb]
  refine ab.ok (by exact hpl _) ?_
  rw[←hpb]
  simp -implicitDefEqProofs only[↓reduceIte,go_sem,Nat.reduceLT]
  refine aR K.mixed (by kernel_rfl) ?_
  by_cases h0:i<0
  case' pos=>
   rw[decide_eq_false (by omega),Bool.false_and]at hpk
   simp -implicitDefEqProofs only[↓reduceIte,go_sem,Nat.reduceLT,Nat.reduceEqDiff,reduceCtorEq,show ¬(0:Int)≤i by omega,t8]
  case' neg=>
   obtain⟨j,rfl⟩:=Int.eq_ofNat_of_zero_le (show 0≤i by omega)
   by_cases hj:j<Z.length
   case' neg=>
    rw[decide_eq_false (by omega),Bool.false_and]at hpk
    simp -implicitDefEqProofs only[↓reduceIte,go_sem,Nat.reduceLT,Nat.reduceEqDiff,reduceCtorEq,t7,hj,dw,t8]
   case' pos=>
    rw[decide_eq_true ⟨by omega,by omega⟩,Bool.true_and]at hpk
    have hz:(Z.map Zn.ds)[j]?=some Z[j].ds:=by simp[hj]
    have hzd:Z.getD j jD=Z[j]:=by simp[hj]
    have hno:=fun H=>ka Z[j] (hzs _ (List.getElem_mem hj)) a H
    simp only[Int.toNat_natCast]at hpk
    rw[hzd]at hpk
    generalize Z[j]=z at*
    simp -implicitDefEqProofs only[↓reduceIte,go_sem,Nat.reduceAdd,Nat.reduceLT,Nat.reduceEqDiff,t1,t7,t8,hj,hz,hx,Zn.ds,Atom.enc,iD,List.length_map]
    refine ab.ok (hno _) ?_
    cases hn0:fz z a
    case' true=>
     rw[hn0]at hpk
     simp -implicitDefEqProofs only[↓reduceIte,go_sem,Nat.reduceLT,Nat.reduceEqDiff]
     refine ao.ret ?_
     simp -implicitDefEqProofs only[↓reduceIte,go_sem,Nat.reduceLT,hit hpk]
    case' false=>
     rw[hn0]at hpk
     simp -implicitDefEqProofs only[↓reduceIte,go_sem,Nat.reduceLT,Nat.reduceEqDiff,t8]
  all_goals
   refine cO.same ⟨rfl,hpp hpk,?_⟩
   simp -implicitDefEqProofs only[↓reduceIte,go_sem,Nat.reduceLT,Nat.reduceEqDiff,t1,t3,t7,hw]
 ·rintro s H' ⟨rfl,hp0,t1,t3,t7,t8⟩
  simp -implicitDefEqProofs only[↓reduceIte,go_sem,Nat.reduceLT,Nat.reduceEqDiff,t1,t8,List.length_map]
  refine ao.ret ?_
  simp -implicitDefEqProofs only[↓reduceIte,go_sem,Nat.reduceLT,any_none fun i hi=>hp0 i hi hi]
theorem mB(l:List Atom)(o:List Int)(n1 n2:Bool)(H:aa)(hl:l.length≤1000000)(ho:o.length≤1000000):
  ah Tryz.prog 20 [.d (.list n1 (l.map Atom.enc)),.d (.list n2 (ints o))] H (.ok (.d (.list false ((c8 l o).map Atom.enc)))) H:=by
 refine ah.aj (hint:=(fun _=>false)) Tryz.func20 (by kernel_rfl) rfl [4] (by kernel_rfl) (by decide) (by simp[Tryz.ntmps20]) ?_
 rw[Tryz.ntmps20]
 simp -implicitDefEqProofs only[go_sem]
 refine aP (fun k s H'=>∃ag,H'=H++[.arr 123 5 ag ((c8 l (o.take k)).map Atom.enc)]∧s 0= .d (.list n1 (l.map Atom.enc))∧s 1= .d (.list n2 (ints o))∧s 5= .sl H.length ag 0 (c8 l (o.take k)).length∧s 6=iA k) o.length (by omega) (an.fy _ _ 5 123 5 (by decide) (by simp -implicitDefEqProofs only[↓reduceIte,go_sem,Nat.reduceLT,Nat.reduceEqDiff]) _) ?_ ?_ ?_
 ·exact⟨0,by simp[c8],by simp -implicitDefEqProofs only[↓reduceIte,go_sem,reduceCtorEq],by simp -implicitDefEqProofs only[↓reduceIte,go_sem,Nat.reduceEqDiff],by simp[c8],by simp -implicitDefEqProofs only[↓reduceIte,go_sem,Nat.reduceLT,Nat.reduceEqDiff]⟩
 ·rintro k s H' hk hw ⟨ag,rfl,h0,h1,h5,h6⟩
  have hle:=gA l (o.take k)
  have hk2:=List.length_take_le k o
  have hsn:=ma l o k hk
  have hget:=b5 o k hk
  generalize o[k]=x at hget hsn
  by_cases hx0:0≤x
  ·by_cases hxl:x<l.length
   ·obtain⟨y,hy⟩:∃y,l[x.toNat]?=some y:=⟨l[x.toNat]'(by omega),by simp[show x.toNat<l.length by omega]⟩
    simp -implicitDefEqProofs only[↓reduceIte,go_sem,Nat.reduceAdd,Nat.reduceLT,Nat.reduceLeDiff,Nat.reduceEqDiff,reduceCtorEq,h0,h1,h5,h6,hk,hget,hx0,hxl,az,List.length_map,hy,Atom.enc]
    refine⟨by omega,by omega,cO.same ⟨ag+1,?_⟩⟩
    simp -implicitDefEqProofs only[↓reduceIte,go_sem,Nat.reduceLT,Nat.reduceEqDiff,reduceCtorEq,h0,h1,hsn,hx0,hy,hw,Option.toList_some,List.map_append,List.length_append,Atom.enc]
   ·have hn:l[x.toNat]?=none:=List.getElem?_eq_none (by omega)
    simp -implicitDefEqProofs only[↓reduceIte,go_sem,Nat.reduceLT,Nat.reduceEqDiff,reduceCtorEq,h0,h1,h6,hk,hget,hx0,hxl,az,List.length_map]
    refine cO.same ⟨ag,?_⟩
    simp -implicitDefEqProofs only[↓reduceIte,go_sem,Nat.reduceLT,Nat.reduceEqDiff,reduceCtorEq,h0,h1,h5,hsn,hx0,hn,hw,Option.toList_none,List.append_nil]
  ·simp -implicitDefEqProofs only[↓reduceIte,go_sem,Nat.reduceLT,Nat.reduceEqDiff,reduceCtorEq,h1,h6,hk,hget,hx0,az]
   refine cO.same ⟨ag,?_⟩
   simp -implicitDefEqProofs only[↓reduceIte,go_sem,Nat.reduceLT,Nat.reduceEqDiff,reduceCtorEq,h0,h1,h5,hsn,hx0,hw,List.append_nil]
 ·rintro s H' ⟨ag,rfl,h0,h1,h5,h6⟩
  simp -implicitDefEqProofs only[↓reduceIte,go_sem,Nat.reduceLT,Nat.reduceEqDiff,h1,h5,h6,az]
  refine ao.ret ?_
  simp -implicitDefEqProofs only[↓reduceIte,go_sem,Nat.reduceLT]
  simp[cN]
theorem gP(l:List Int)(nn:Bool)(hl:l.length≤1000000000)(x:Int)(H:aa):ah Tryz.prog 56 [.d (.list nn (ints l)),iA x] H (.ok (iA (cC x l))) H:=by
 refine ah.aj (hint:=(fun _=>false)) Tryz.func56 (by kernel_rfl) rfl [4] (by kernel_rfl) (by decide) (by simp[Tryz.ntmps56]) ?_
 rw[Tryz.ntmps56]
 simp -implicitDefEqProofs only[go_sem,Int.reduceNeg]
 refine aP (fun k s H'=>H'=H∧(∀i (hi:i<k) (hl:i<l.length),¬l[i]=x)∧s 0= .d (.list nn (ints l))∧s 1=iA x∧s 5=iA k) l.length (by omega) (an.refl _ _) ?_ ?_ ?_
 ·refine⟨rfl,fun i hi=>by omega,?_⟩
  simp -implicitDefEqProofs only[↓reduceIte,go_sem,Nat.reduceLT,Nat.reduceEqDiff,reduceCtorEq]
 ·rintro k s H' hk hw ⟨rfl,hp,t0,t1,t5⟩
  have hx:=b5 l k hk
  have hit:l[k]=x→cC x l=k:=fun e=>by rw[←e];exact nQ hk fun i hi hl'=>by rw[e];exact hp i hi hl'
  have hpp:¬l[k]=x→∀i (hi:i<k+1) (hl:i<l.length),¬l[i]=x:=fun h0 i hi hl'=>by
   rcases Nat.lt_or_ge i k with h|h
   ·exact hp i h hl'
   ·obtain rfl:i=k:=by omega
    exact h0
  generalize l[k]=y at*
  by_cases hy:y=x
  ·simp -implicitDefEqProofs only[↓reduceIte,go_sem,Nat.reduceLT,Nat.reduceEqDiff,reduceCtorEq,t0,t1,t5,az,hk,hx,hy]
   refine ao.aF ?_
   simp -implicitDefEqProofs only[↓reduceIte,go_sem,Nat.reduceLT,hit hy]
  ·simp -implicitDefEqProofs only[↓reduceIte,go_sem,Nat.reduceLT,Nat.reduceEqDiff,reduceCtorEq,t0,t1,t5,az,hk,hx,hy]
   refine cO.same ⟨rfl,hpp hy,?_⟩
   simp -implicitDefEqProofs only[↓reduceIte,go_sem,Nat.reduceLT,Nat.reduceEqDiff,reduceCtorEq,t0,t1,hw]
 ·rintro s H' ⟨rfl,hp,t0,t1,t5⟩
  simp -implicitDefEqProofs only[↓reduceIte,go_sem,Nat.reduceLT,Nat.reduceEqDiff,Int.reduceNeg,reduceCtorEq,t0,t5,az]
  refine ao.aF ?_
  simp -implicitDefEqProofs only[↓reduceIte,go_sem,Nat.reduceLT,Int.reduceNeg,lR fun i hi=>hp i hi hi]
def iy(a:Int×Int):List Int:=if a.1=1 then[]else[a.2]
theorem AM(aE:List Int)(bJ:List (Int×Int))(aL:List (Int×D×D×D)):nW aE bJ aL=(aE++bJ.flatMap iy++aL.map (·.1)).foldl tell []:=by
 have h1:∀(l:List (Int×Int)) (o:List Int),l.foldl fl o=(l.flatMap iy).foldl tell o:=by
  intro l
  induction l with
  |nil=>exact fun o=>rfl
  |cons a l ih=>
   intro o
   rw[List.foldl_cons,List.flatMap_cons,List.foldl_append,ih]
   unfold fl iy
   split<;>rfl
 have h2:∀(l:List (Int×D×D×D)) (o:List Int),l.foldl mw o=(l.map (·.1)).foldl tell o:=by
  intro l
  induction l with
  |nil=>exact fun o=>rfl
  |cons a l ih=>exact fun o=>ih _
 unfold nW
 rw[List.foldl_append,List.foldl_append,h1,h2]
theorem th(x:Int)(l:List Int):(cC x l<0)=¬x∈l:=by unfold cC;split<;>simp[*]<;>omega
theorem j6(q:Qu)(hq:q.Ok)(H:aa):ah Tryz.prog 17 [q.av] H (.ok (.d (.list false (ints q.cT)))) H:=by
 have hnl:=q.jE hq
 have hcl:=hq.aE
 have hal:=hq.bJ
 have hjl:=hq.aL
 unfold Qu.cT at hnl⊢
 rw[AM]at hnl⊢
 have hfl:∀k,((q.bJ.take k).flatMap iy).length≤k:=fun k=>by
  have:∀l:List (Int×Int),(l.flatMap iy).length≤l.length:=by
   intro l
   induction l with
   |nil=>simp
   |cons a l ih=>
    have h1:(iy a).length≤1:=by unfold iy;split<;>simp
    rw[List.flatMap_cons,List.length_append,List.length_cons]
    omega
  exact Nat.le_trans (this _) (List.length_take_le _ _)
 obtain⟨q0,pred,aL,aE,q4,bJ,q6,q7⟩:=q
 simp only at*
 obtain⟨qb,hqb⟩:∃qb,qb=aA.box 30 8 0 1 [.d q0,.d (.list false (pred.map Atom.enc)),.d (.list false (aL.map jh)),.d (.list false (ints aE)),.d q4,.d (.list false (bJ.map iE)),.d q6,.d q7]:=⟨_,rfl⟩
 have hb:∀m,qb.below m=true:=by intro m;subst hqb;simp -implicitDefEqProofs only[go_sem]
 have hio:(∀c∈ints aE,c.length=1)=True:=nT aE
 refine ah.aj (hint:=(fun _=>false)) Tryz.func17 (by kernel_rfl) rfl [2] (by kernel_rfl) (by decide) (by simp[Tryz.ntmps17]) ?_
 rw[Tryz.ntmps17]
 simp -implicitDefEqProofs only[↓reduceIte,go_sem,ae,Nat.reduceAdd,Nat.reduceLT,Nat.reduceLeDiff,Nat.reduceEqDiff,Qu.av,Qu.ds,hio,az]
 refine⟨by omega,by omega,?_⟩
 rw[←hqb]
 refine aP (fun k s H'=>∃ag,H'=H++[qb,.arr 3 1 ag (ints (aE++(bJ.take k).flatMap iy))]∧s 1= .ptr H.length 0 0 0∧s 3= .sl (H.length+1) ag 0 (aE++(bJ.take k).flatMap iy).length∧s 4=iA k) bJ.length (by omega) (an.refl _ _) ?_ ?_ ?_
 ·refine⟨1,?_⟩
  simp -implicitDefEqProofs only[↓reduceIte,go_sem,Nat.reduceLT,Nat.reduceEqDiff,List.take_zero,List.flatMap_nil,List.append_nil]
 ·rintro k s H' hk hw ⟨ag,rfl,t1,t3,t4⟩
  have hx:(bJ.map iE)[k]?=some (iE bJ[k]):=by simp[hk]
  have e1:(bJ.take (k+1)).flatMap iy=(bJ.take k).flatMap iy++iy bJ[k]:=by rw[List.take_succ_eq_append_getElem hk,List.flatMap_append];simp
  have hl:=hfl k
  generalize bJ[k]=a at*
  have hll:((aE++(bJ.take k).flatMap iy)).length≤200:=by rw[List.length_append];omega
  rw[e1,←List.append_assoc]
  generalize hA:aE++(bJ.take k).flatMap iy=A at*
  by_cases hop:a.1=1
  ·have hac:iy a=[]:=if_pos hop
   simp -implicitDefEqProofs only[↓reduceIte,go_sem,ae,Nat.reduceAdd,Nat.reduceLT,Nat.reduceLeDiff,Nat.reduceEqDiff,t1,t4,hqb,List.length_map,hk,hx,iE,hop]
   rw[←hqb]
   refine cO.same ⟨ag,?_⟩
   simp -implicitDefEqProofs only[↓reduceIte,go_sem,Nat.reduceLT,Nat.reduceEqDiff,t1,t3,hw,hac,List.append_nil]
  ·have hac:iy a=[a.2]:=if_neg hop
   simp -implicitDefEqProofs only[↓reduceIte,go_sem,ae,Nat.reduceAdd,Nat.reduceLT,Nat.reduceLeDiff,Nat.reduceEqDiff,t1,t3,t4,hqb,List.length_map,hk,hx,iE,hop,az,gk]
   rw[←hqb]
   refine⟨by omega,by omega,cO.same ⟨ag+1,?_⟩⟩
   simp -implicitDefEqProofs only[↓reduceIte,go_sem,Nat.reduceLT,Nat.reduceEqDiff,t1,hw,hac,List.length_cons,List.length_nil]
 rintro s H' ⟨ag,rfl,t1,t3,t4⟩
 have hA2:=hfl bJ.length
 rw[List.take_length]at t3 hA2⊢
 have hAl:(aE++bJ.flatMap iy).length≤200:=by rw[List.length_append];omega
 generalize aE++bJ.flatMap iy=A at*
 simp -implicitDefEqProofs only[↓reduceIte,go_sem,ae,Nat.reduceAdd,Nat.reduceLT,Nat.reduceLeDiff,Nat.reduceEqDiff,t1,t4,hqb,List.length_map]
 rw[←hqb]
 refine aP (fun k s H'=>∃ag,H'=H++[qb,.arr 3 1 ag (ints (A++(aL.map (·.1)).take k))]∧s 1= .ptr H.length 0 0 0∧s 3= .sl (H.length+1) ag 0 (A.length+k)∧s 5=iA k) aL.length (by omega) (an.refl _ _) ?_ ?_ ?_
 ·refine⟨ag,?_⟩
  simp -implicitDefEqProofs only[↓reduceIte,go_sem,Nat.reduceLT,Nat.reduceEqDiff,List.take_zero,List.append_nil,t1,t3]
 ·rintro k s H' hk hw ⟨ag,rfl,t1,t3,t5⟩
  have hx:(aL.map jh)[k]?=some (jh aL[k]):=by simp[hk]
  have e1:(aL.map (·.1)).take (k+1)=(aL.map (·.1)).take k++[(aL[k]).1]:=by rw[List.take_succ_eq_append_getElem (by simpa using hk)];simp
  have hln:(A++(aL.map (·.1)).take k).length=A.length+k:=by simp;omega
  rw[e1,←List.append_assoc]
  generalize aL[k]=x at*
  generalize A++(aL.map (·.1)).take k=B at*
  simp -implicitDefEqProofs only[↓reduceIte,go_sem,ae,Nat.reduceAdd,Nat.reduceLT,Nat.reduceLeDiff,Nat.reduceEqDiff,t1,t3,t5,hqb,List.length_map,hk,hx,jh,az,hln,gk]
  rw[←hqb]
  refine⟨by omega,by omega,cO.same ⟨ag+1,?_⟩⟩
  simp -implicitDefEqProofs only[↓reduceIte,go_sem,Nat.reduceLT,Nat.reduceEqDiff,t1,hw,Nat.add_assoc]
 rintro s H' ⟨ag,rfl,t1,t3,t5⟩
 rw[List.take_of_length_le (show(aL.map (·.1)).length≤aL.length by simp)]
 have hWl:A.length+aL.length=(A++aL.map (·.1)).length:=by simp
 rw[hWl]at t3
 generalize A++aL.map (·.1)=W at*
 have hft:∀k,((W.take k).foldl tell []).length≤k:=fun k=>by
  have:=dj tell hO (W.take k) []
  have h2:=List.length_take_le k W
  simp only[List.length_nil]at this
  omega
 simp -implicitDefEqProofs only[↓reduceIte,go_sem,ae,Nat.reduceAdd,Nat.reduceLT,Nat.reduceLeDiff,Nat.reduceEqDiff,t1,t5,hqb,List.length_map]
 rw[←hqb]
 refine aP (fun k s H'=>∃ag,H'=H++[qb,.arr 3 1 ag (ints ((W.take k).foldl tell []))]∧s 3= .d (.list false (ints W))∧s 6= .sl (H.length+1) ag 0 ((W.take k).foldl tell []).length∧s 7=iA k) W.length (by omega) ((an.cut [qb] [.arr 3 1 ag (ints W)] 1 rfl _ (by simp -implicitDefEqProofs only[go_sem,hb])).trans (an.fy _ _ 6 3 1 (by decide) (by simp -implicitDefEqProofs only[↓reduceIte,go_sem,Nat.reduceLT,Nat.reduceEqDiff]) _)) ?_ ?_ ?_
 ·refine⟨0,?_⟩
  simp -implicitDefEqProofs only[↓reduceIte,go_sem,Nat.reduceLT,Nat.reduceEqDiff,t3,az,cN,mX]
 ·rintro k s H' hk hw ⟨ag,rfl,t3,t6,t7⟩
  have hx:=b5 W k hk
  have e1:=ia tell [] W k hk
  have hol:=hft k
  rw[e1]
  generalize (W.take k).foldl tell []=O at*
  generalize W[k]=x at*
  have hpl:=gP O false (by omega) x []
  simp -implicitDefEqProofs only[↓reduceIte,go_sem,Nat.reduceLT,Nat.reduceEqDiff,t3,t7,az,hk,hx,t6]
  refine ab.HT (.cons (.sl (H.length+1) 1 ag 0 O.length 3 (ints O) (by simp)) (.cons (.d _) .nil)) (by rw[List.drop_zero,List.take_of_length_le (by rw[az];omega)];exact hpl) rfl ?_
  by_cases hin:x∈O
  ·have ht:tell O x=O:=if_pos hin
   simp -implicitDefEqProofs only[↓reduceIte,go_sem,Nat.reduceLT,Nat.reduceEqDiff,th,hin,not_true_eq_false,t7]
   refine cO.same ⟨ag,?_⟩
   simp -implicitDefEqProofs only[↓reduceIte,go_sem,Nat.reduceLT,Nat.reduceEqDiff,t3,t6,hw,ht]
  ·have ht:tell O x=O++[x]:=if_neg hin
   simp -implicitDefEqProofs only[↓reduceIte,go_sem,Nat.reduceAdd,Nat.reduceLT,Nat.reduceLeDiff,Nat.reduceEqDiff,th,hin,not_false_eq_true,t3,t6,t7,hx,az,gk]
   refine⟨by omega,by omega,cO.same ⟨ag+1,?_⟩⟩
   simp -implicitDefEqProofs only[↓reduceIte,go_sem,Nat.reduceLT,Nat.reduceEqDiff,t3,hw,ht,List.length_append,List.length_cons,List.length_nil]
 ·rintro s H' ⟨ag,rfl,t3,t6,t7⟩
  rw[List.take_length]at t6⊢
  simp -implicitDefEqProofs only[↓reduceIte,go_sem,Nat.reduceLT,Nat.reduceEqDiff,t3,t6,t7,az]
  refine ao.ret ?_
  simp -implicitDefEqProofs only[↓reduceIte,go_sem,Nat.reduceLT,cN,az]
theorem Bq(x:Int)(l:List Int):(0≤cC x l)=(x∈l):=sT x l
theorem wi(p:Pj)(hp:p.aE.length≤1000000000)(q:Qu)(hq:q.Ok)(H:aa):ah Tryz.prog 104 [p.av,q.av] H (.ok (du (p.aE.filter (asked q)).length)) H:=by
 have hn:=fun H=>j6 q hq H
 have hnl:=q.jE hq
 have hpl:=hq.pred
 have hask:∀c,asked q c=((q.pred.any fun a=>decide (a.eo=c))||decide (c∈q.cT)):=fun c=>rfl
 generalize asked q=ask at*
 generalize q.cT=cT at*
 obtain⟨cs,key,prows,S⟩:=p
 obtain⟨q0,pred,aL,qcols,q4,bJ,q6,q7⟩:=q
 simp only at*
 refine ah.aj (hint:=(fun _=>false)) Tryz.func104 (by kernel_rfl) rfl [4] (by kernel_rfl) (by decide) (by simp[Tryz.ntmps104]) ?_
 rw[Tryz.ntmps104]
 simp -implicitDefEqProofs only[↓reduceIte,go_sem,ae,Nat.reduceAdd,Nat.reduceLT,Nat.reduceEqDiff,Pj.av,Pj.ds,Qu.av,Qu.ds]
 refine ab.ok (hn _) ?_
 simp -implicitDefEqProofs only[↓reduceIte,go_sem,Nat.reduceLT]
 obtain⟨qb,hqb⟩:∃qb,qb=aA.box 30 8 0 1 [.d q0,.d (.list false (pred.map Atom.enc)),.d (.list false (aL.map jh)),.d (.list false (ints qcols)),.d q4,.d (.list false (bJ.map iE)),.d q6,.d q7]:=⟨_,rfl⟩
 obtain⟨pb,hpb⟩:∃pb,pb=aA.box 45 4 0 1 [.d (.list false (ints cs)),.d (.list false (ints key)),iA prows,.d (.list false (bC S))]:=⟨_,rfl⟩
 rw[←hqb,←hpb]
 refine aP (fun k s H'=>H'=H++[pb,qb]∧s 2= .ptr H.length 0 0 0∧s 3= .ptr (H.length+1) 0 0 0∧s 5= .d (.list false (ints cT))∧s 6=du ((cs.take k).filter ask).length∧s 7=iA k) cs.length (by omega) (an.refl _ _) ?_ ?_ ?_
 ·refine⟨rfl,?_⟩
  simp -implicitDefEqProofs only[↓reduceIte,go_sem,Nat.reduceLT,Nat.reduceEqDiff,List.take_zero,List.filter_nil]
  rfl
 ·rintro k s H' hk hw ⟨rfl,t2,t3,t5,t6,t7⟩
  have hx:=b5 cs k hk
  have e1:((cs.take (k+1)).filter ask).length=((cs.take k).filter ask).length+if ask cs[k]=true then 1 else 0:=by
   rw[List.take_succ_eq_append_getElem hk,List.filter_append,List.length_append]
   cases h:ask cs[k]<;>simp[h]
  have hle:((cs.take k).filter ask).length≤k:=Nat.le_trans (List.length_filter_le _ _) (List.length_take_le _ _)
  have hac:=hask cs[k]
  generalize ((cs.take k).filter ask).length=m at*
  generalize cs[k]=c at*
  simp -implicitDefEqProofs only[↓reduceIte,go_sem,ae,Nat.reduceAdd,Nat.reduceLT,Nat.reduceLeDiff,Nat.reduceEqDiff,t2,t5,t7,hpb,az,hk,hx]
  refine ab.ok (gP cT false (by omega) c _) ?_
  simp -implicitDefEqProofs only[↓reduceIte,go_sem,Nat.reduceLT,Bq]
  rw[←hpb]
  refine aP (fun j s H'=>H'=H++[pb,qb]∧s 2= .ptr H.length 0 0 0∧s 3= .ptr (H.length+1) 0 0 0∧s 5= .d (.list false (ints cT))∧s 6=du m∧s 7=iA k∧s 8=bA (decide (c∈cT)||(pred.take j).any fun a=>decide (a.eo=c))∧s 9=iA j) pred.length (by omega) (an.refl _ _) ?_ ?_ ?_
  ·refine⟨rfl,?_⟩
   simp -implicitDefEqProofs only[↓reduceIte,go_sem,Nat.reduceLT,Nat.reduceEqDiff,t2,t3,t5,t6,t7,List.take_zero,List.any_nil,Bool.or_false]
  ·rintro j s H' hj hw2 ⟨rfl,t2,t3,t5,t6,t7,t8,t9⟩
   have hy:(pred.map Atom.enc)[j]?=some pred[j].enc:=by simp[hj]
   have e2:(decide (c∈cT)||(pred.take (j+1)).any fun a=>decide (a.eo=c))=((decide (c∈cT)||(pred.take j).any fun a=>decide (a.eo=c))||decide (pred[j].eo=c)):=by rw[List.take_succ_eq_append_getElem hj,List.any_append,Bool.or_assoc];simp
   generalize (decide (c∈cT)||(pred.take j).any fun a=>decide (a.eo=c))=b at*
   generalize pred[j]=y at*
   simp -implicitDefEqProofs only[↓reduceIte,go_sem,ae,Nat.reduceAdd,Nat.reduceLT,Nat.reduceLeDiff,Nat.reduceEqDiff,t3,t9,hqb,List.length_map,hj]
   refine aR K.mixed (by kernel_rfl) ?_
   cases b
   case' false=>simp -implicitDefEqProofs only[↓reduceIte,go_sem,ae,Nat.reduceAdd,Nat.reduceLT,Nat.reduceLeDiff,Nat.reduceEqDiff,reduceCtorEq,t2,t3,t7,t8,t9,hpb,hqb,hx,hy,Atom.enc]
   case' true=>simp -implicitDefEqProofs only[↓reduceIte,go_sem,Nat.reduceLT,Nat.reduceEqDiff,t8,t9,hqb]
   all_goals
    refine cO.same ⟨by first|rfl|rw[hqb,hpb]|rw[hqb],?_⟩
    simp -implicitDefEqProofs only[↓reduceIte,go_sem,Nat.reduceLT,Nat.reduceEqDiff,t2,t3,t5,t6,t7,hw2,e2,Bool.false_or,Bool.true_or]
  ·rintro s H' ⟨rfl,t2,t3,t5,t6,t7,t8,t9⟩
   rw[List.take_length,Bool.or_comm,←hac]at t8
   simp -implicitDefEqProofs only[↓reduceIte,go_sem,ae,Nat.reduceAdd,Nat.reduceLT,Nat.reduceLeDiff,Nat.reduceEqDiff,t3,t9,hqb,List.length_map]
   rw[←hqb]
   cases ha:ask c
   case' true=>
    rw[ha,if_pos rfl]at e1
    simp -implicitDefEqProofs only[↓reduceIte,go_sem,Nat.reduceLT,Nat.reduceEqDiff,t8,ha,t6,t7]
   case' false=>
    rw[ha,if_neg (by simp)]at e1
    simp -implicitDefEqProofs only[↓reduceIte,go_sem,Nat.reduceLT,Nat.reduceEqDiff,t8,ha,t7]
   all_goals
    refine cO.same ⟨rfl,?_⟩
    rw[e1]
    simp -implicitDefEqProofs only[↓reduceIte,go_sem,Nat.reduceLT,Nat.reduceEqDiff,t2,t3,t5,t6,hw]
   rw[bu _ (by omega) (by omega)]
   rfl
 ·rintro s H' ⟨rfl,t2,t3,t5,t6,t7⟩
  rw[List.take_length]at t6
  simp -implicitDefEqProofs only[↓reduceIte,go_sem,ae,Nat.reduceAdd,Nat.reduceLT,Nat.reduceLeDiff,Nat.reduceEqDiff,t2,t6,t7,hpb,az]
  refine ao.ret ?_
  simp -implicitDefEqProofs only[↓reduceIte,go_sem,Nat.reduceLT]
theorem kv(a b:Nat):b6 a b=min (a+b) 18446744073709551615:=by unfold b6;split<;>omega
theorem nL(a b c:Nat):b6 (b6 a b) c=b6 a (b6 b c):=by simp only[kv];omega
theorem zi(a:Nat)(h:a<18446744073709551616):b6 a 0=a:=by rw[kv];omega
theorem zd(a n:Nat):dQ a (n+1)=b6 (dQ a n) a:=by
 have h:a* (n+1)=a* n+a:=Nat.mul_succ a n
 unfold dQ b6
 rw[h]
 split<;>split<;>first|omega|(split<;>omega)
def ox(p:Pj)(q:Qu)(pl:Pl)(l:List Atom)(Z:List Zn)(j:Nat):Nat:=
 b6 (if pl.late then b6 (jQ p Z l (Z.getD 0 jD).rows).1 (b6 pl.rep.toNat (dQ (jQ p Z l (Z.getD 0 jD).rows).2 q.cT.length))else eM p q (Z.getD 0 jD).rows) (dQ (Z.getD 0 jD).rows j)
theorem tn(p:Pj)(q:Qu)(pl:Pl)(sum k:Nat)(hs:sum<18446744073709551616):eG p q pl sum k=if gR p (aJ p.bk k) (bM q pl)then sum else b6 sum (ox p q pl (bM q pl) (aJ p.bk k) (if pl.range then 0 else q.aL.length)):=by
 unfold eG ox
 split
 ·rfl
 ·simp only
  have h0:∀x,dQ x 0=0:=fun x=>rfl
  have e1:(if pl.late then b6 (b6 sum pl.rep.toNat) (kT p q (bM q pl) (aJ p.bk k) ((aJ p.bk k).getD 0 jD).rows)else b6 sum (eM p q ((aJ p.bk k).getD 0 jD).rows))=b6 sum (if pl.late then b6 (jQ p (aJ p.bk k) (bM q pl) ((aJ p.bk k).getD 0 jD).rows).1 (b6 pl.rep.toNat (dQ (jQ p (aJ p.bk k) (bM q pl) ((aJ p.bk k).getD 0 jD).rows).2 q.cT.length))else eM p q ((aJ p.bk k).getD 0 jD).rows):=by
   split
   ·unfold kT;simp only[kv];omega
   ·rfl
  rw[e1]
  generalize (if pl.late then b6 (jQ p (aJ p.bk k) (bM q pl) ((aJ p.bk k).getD 0 jD).rows).1 (b6 pl.rep.toNat (dQ (jQ p (aJ p.bk k) (bM q pl) ((aJ p.bk k).getD 0 jD).rows).2 q.cT.length))else eM p q ((aJ p.bk k).getD 0 jD).rows)=e
  split
  ·rw[h0];simp only[kv];omega
  ·rw[nL]
theorem rK(p:Pj)(hp:p.aE.length≤1000000000)(q:Qu)(hq:q.Ok)(pl:Pl)(hrep:fV pl.rep)(l:List Atom)(hl:l.length≤1000000000)(Z:List Zn)(hZ:∀z∈Z,z.rows≤1000000000)(hZs:∀z∈Z,z.pK)(hZl:Z.length≤1000000000)(hZ0:0<Z.length)(H:aa):
  ah Tryz.prog 53 [p.av,q.av,pl.av,.d (.list false (l.map Atom.enc)),.d (.list false (Z.map Zn.ds))] H (.ok (du (ox p q pl l Z (if pl.range then 0 else q.aL.length)))) H:=by
 have hn:=fun H=>j6 q hq H
 have hnl:=q.jE hq
 have hus:=fun H=>wi p hp q hq H
 have hz0:(Z.map Zn.ds)[0]?=some Z[0].ds:=by simp[hZ0]
 have hzd:Z.getD 0 jD=Z[0]:=by simp[hZ0]
 have hr9:=hZ Z[0] (List.getElem_mem hZ0)
 have hjl:=hq.aL
 unfold ox eM
 rw[hzd]
 generalize Z[0]=z0 at*
 have hrl:z0.rows<18446744073709551616:=by omega
 have hlt:=fun k=>ou p Z z0.rows hrl (l.take k) (0,z0.rows) (by omega) hrl
 have hstep:∀x a,dH p Z x a=if 0≤cC a.eo p.aE∧cC a.eo p.aE<Z.length then(b6 x.1 x.2,min x.2 (iO (Z.getD (cC a.eo p.aE).toNat jD) a))else x:=fun x a=>rfl
 unfold jQ
 generalize dH p Z=f at*
 have hfc:(p.aE.filter (asked q)).length≤p.aE.length:=List.length_filter_le _ _
 generalize (p.aE.filter (asked q)).length=us at*
 generalize q.cT=cT at*
 obtain⟨cs,key,prows,S⟩:=p
 obtain⟨proj,late,order,rep,range⟩:=pl
 simp only at*
 obtain⟨qb,hqb⟩:∃qb,qb=aA.box 30 8 0 1 [.d q.table,.d (.list false (q.pred.map Atom.enc)),.d (.list false (q.aL.map jh)),.d (.list false (ints q.aE)),.d q.group,.d (.list false (q.bJ.map iE)),.d q.order,.d q.pN]:=⟨_,rfl⟩
 obtain⟨pb,hpb⟩:∃pb,pb=aA.box 45 4 0 1 [.d (.list false (ints cs)),.d (.list false (ints key)),iA prows,.d (.list false (bC S))]:=⟨_,rfl⟩
 obtain⟨lb,hlb⟩:∃lb,lb=aA.box 32 5 0 1 [iA proj,bA late,.d (.list false (ints order)),iA rep,bA range]:=⟨_,rfl⟩
 have hw0:IntKind.u64.wrap (max (z0.rows:Int) 0)=(z0.rows:Int):=by rw[bu _ (by omega) (by omega)];omega
 refine ah.aj (hint:=(fun _=>false)) Tryz.func53 (by kernel_rfl) rfl [10] (by kernel_rfl) (by decide) (by simp[Tryz.ntmps53]) ?_
 rw[Tryz.ntmps53]
 simp -implicitDefEqProofs only[↓reduceIte,go_sem,ae,Nat.reduceAdd,Nat.reduceLT,Nat.reduceLeDiff,Nat.reduceEqDiff,Int.reduceLE,Int.reduceToNat,Pj.av,Pj.ds,Qu.av,Qu.ds,Pl.av,Pl.ds,iD,hz0,Zn.ds,hw0]
 rw[←hqb,←hpb,←hlb]
 refine dX (fun s H'=>H'=H++[pb,qb,lb]∧s 3= .d (.list false (l.map Atom.enc))∧s 4= .d (.list false (Z.map Zn.ds))∧s 5= .ptr H.length 0 0 0∧s 6= .ptr (H.length+1) 0 0 0∧s 7= .ptr (H.length+2) 0 0 0∧s 11=du z0.rows∧s 12=du (if late=true then 0 else dQ z0.rows us)) rfl ?_ ?_
 ·cases late
  ·simp -implicitDefEqProofs only[↓reduceIte,go_sem,ae,Nat.reduceAdd,Nat.reduceLT,Nat.reduceEqDiff,hpb,hqb]
   refine ab.ok (hus _) ?_
   simp -implicitDefEqProofs only[↓reduceIte,go_sem,Nat.reduceLT,Nat.reduceEqDiff]
   refine ab.ok (qc _ _ hrl (by omega) _) ?_
   simp -implicitDefEqProofs only[↓reduceIte,go_sem,Nat.reduceLT,Nat.reduceEqDiff,hpb,hqb,Bool.false_eq_true]
  ·simp -implicitDefEqProofs only[↓reduceIte,go_sem,Nat.reduceLT,Nat.reduceEqDiff]
   rfl
 rintro s H' ⟨rfl,t3,t4,t5,t6,t7,t11,t12⟩
 simp -implicitDefEqProofs only[↓reduceIte,go_sem,Nat.reduceLT,t11]
 refine fq (fun s H'=>H'=H++[pb,qb,lb]∧s 6= .ptr (H.length+1) 0 0 0∧s 7= .ptr (H.length+2) 0 0 0∧s 11=du z0.rows∧s 12=du (if late=true then(l.foldl f (0,z0.rows)).1 else dQ z0.rows us)∧s 13=du (if late=true then(l.foldl f (0,z0.rows)).2 else z0.rows)) rfl ?_ ?_
 ·cases late
  ·refine aP (fun k s H'=>k=0∧H'=H++[pb,qb,lb]∧s 3= .d (.list false (l.map Atom.enc))∧s 6= .ptr (H.length+1) 0 0 0∧s 7= .ptr (H.length+2) 0 0 0∧s 11=du z0.rows∧s 12=du (dQ z0.rows us)∧s 13=du z0.rows∧s 14=iA 0) 0 (by omega) (an.refl _ _) ?_ ?_ ?_
   ·refine⟨rfl,rfl,?_⟩
    simp -implicitDefEqProofs only[↓reduceIte,go_sem,Nat.reduceLT,Nat.reduceEqDiff,t3,t6,t7,t11,t12,Bool.false_eq_true]
   ·intro k s H' hk;omega
   ·rintro s H' ⟨_,rfl,t3,t6,t7,t11,t12,t13,t14⟩
    by_cases h0:0<(l.length:Int)
    all_goals simp -implicitDefEqProofs only[↓reduceIte,go_sem,ae,Nat.reduceAdd,Nat.reduceLT,Nat.reduceLeDiff,Nat.reduceEqDiff,t3,t7,t14,hlb,List.length_map,h0,t6,t11,t12,t13,Bool.false_eq_true]
  refine aP (fun k s H'=>H'=H++[pb,qb,lb]∧s 3= .d (.list false (l.map Atom.enc))∧s 4= .d (.list false (Z.map Zn.ds))∧s 5= .ptr H.length 0 0 0∧s 6= .ptr (H.length+1) 0 0 0∧s 7= .ptr (H.length+2) 0 0 0∧s 11=du z0.rows∧s 12=du ((l.take k).foldl f (0,z0.rows)).1∧s 13=du ((l.take k).foldl f (0,z0.rows)).2∧s 14=iA k) l.length (by omega) (an.refl _ _) ?_ ?_ ?_
  ·refine⟨rfl,?_⟩
   simp -implicitDefEqProofs only[↓reduceIte,go_sem,Nat.reduceLT,Nat.reduceEqDiff,t3,t4,t5,t6,t7,t11,t12,List.take_zero,List.foldl_nil]
  ·rintro k s H' hk hw ⟨rfl,t3,t4,t5,t6,t7,t11,t12,t13,t14⟩
   have hx:(l.map Atom.enc)[k]?=some l[k].enc:=by simp[hk]
   have e1:(l.take (k+1)).foldl f (0,z0.rows)=f ((l.take k).foldl f (0,z0.rows)) l[k]:=by rw[List.take_succ_eq_append_getElem hk,List.foldl_append];rfl
   obtain⟨hl1,hl2⟩:=hlt k
   rw[e1,hstep]
   generalize (l.take k).foldl f (0,z0.rows)=x at*
   obtain⟨sum,left⟩:=x
   generalize l[k]=a at*
   simp only at hl1 hl2 t12 t13⊢
   have hil:=qk a.eo cs
   have hid:=fun H=>gP cs false hp a.eo H
   generalize cC a.eo cs=i at*
   simp -implicitDefEqProofs only[↓reduceIte,go_sem,ae,Nat.reduceAdd,Nat.reduceLT,Nat.reduceLeDiff,Nat.reduceEqDiff,t3,t7,t14,hlb,List.length_map,hk]
   refine aR K.mixed (by kernel_rfl) ?_
   simp -implicitDefEqProofs only[↓reduceIte,go_sem,ae,Nat.reduceAdd,Nat.reduceLT,Nat.reduceLeDiff,Nat.reduceEqDiff,t3,t5,t14,hpb,hx,Atom.enc]
   refine ab.ok (hid _) ?_
   by_cases h0:i<0
   case' pos=>
    rw[if_neg (by omega)]
    simp -implicitDefEqProofs only[↓reduceIte,go_sem,Nat.reduceLT,Nat.reduceEqDiff,h0,t14]
   case' neg=>
    obtain⟨j,rfl⟩:=Int.eq_ofNat_of_zero_le (show 0≤i by omega)
    by_cases hj:Z.length≤j
    case' pos=>
     rw[if_neg (by omega)]
     simp -implicitDefEqProofs only[↓reduceIte,go_sem,Nat.reduceLT,Nat.reduceEqDiff,reduceCtorEq,h0,t4,dw,hj,t14]
    case' neg=>
     have hjl:j<Z.length:=by omega
     rw[if_pos ⟨by omega,by omega⟩]
     have hz:(Z.map Zn.ds)[j]?=some Z[j].ds:=by simp[hjl]
     have hzd:Z.getD j jD=Z[j]:=by simp[hjl]
     have hro:=fun H=>wM Z[j] (hZs _ (List.getElem_mem hjl)) a (hZ _ (List.getElem_mem hjl)) H
     have hzr:=hZ _ (List.getElem_mem hjl)
     have hrl:=sy Z[j] a
     simp only[Int.toNat_natCast]
     rw[hzd]
     generalize iO Z[j] a=rz at*
     generalize Z[j]=z at*
     simp -implicitDefEqProofs only[↓reduceIte,go_sem,Nat.reduceLT,Nat.reduceEqDiff,reduceCtorEq,h0,t4,dw,hj,t12,t13]
     refine ab.ok (gr sum left hl1 hl2 _) ?_
     simp -implicitDefEqProofs only[↓reduceIte,go_sem,Nat.reduceLT]
     refine aR K.mixed (by kernel_rfl) ?_
     simp -implicitDefEqProofs only[↓reduceIte,go_sem,Nat.reduceAdd,Nat.reduceLT,Nat.reduceEqDiff,t3,t4,t13,t14,hz,hx,Atom.enc,Zn.ds,iD]
     refine ab.ok (hro _) ?_
     have hwm:IntKind.u64.wrap (max (rz:Int) 0)=(rz:Int):=by rw[bu _ (by omega) (by omega)];omega
     have hmn:min (left:Int) (rz:Int)=((min left rz:Nat):Int):=by omega
     simp -implicitDefEqProofs only[↓reduceIte,go_sem,Nat.reduceLT,Nat.reduceEqDiff,hwm,hmn,t14]
   all_goals
    refine cO.same ⟨by first|rfl|rw[hpb,hlb],?_⟩
    simp -implicitDefEqProofs only[↓reduceIte,go_sem,Nat.reduceLT,Nat.reduceEqDiff,t3,t4,t5,t6,t7,t11,t12,t13,hw]
  ·rintro s H' ⟨rfl,t3,t4,t5,t6,t7,t11,t12,t13,t14⟩
   rw[List.take_length]at t12 t13
   simp -implicitDefEqProofs only[↓reduceIte,go_sem,Nat.reduceLT,Nat.reduceEqDiff,reduceCtorEq,t3,t14,List.length_map,t6,t7,t11,t12,t13]
 clear t3 t4 t5 t6 t7 t11 t12
 rintro s H' ⟨rfl,t6,t7,t11,t12,t13⟩
 have hlt:=hlt l.length
 rw[List.take_length]at hlt
 generalize l.foldl f (0,z0.rows)=x at*
 obtain⟨sum,left⟩:=x
 simp only at hlt t12 t13⊢
 simp -implicitDefEqProofs only[↓reduceIte,go_sem,ae,Nat.reduceAdd,Nat.reduceLT,Nat.reduceLeDiff,t7,hlb]
 rw[←hlb]
 generalize hE:(if late=true then b6 sum (b6 rep.toNat (dQ left cT.length))else dQ z0.rows us)=E at*
 have hEl:E<18446744073709551616:=by rw[←hE];split;exact eh _ _;exact kU _ _
 refine dX (fun s H'=>H'=H++[pb,qb,lb]∧s 6= .ptr (H.length+1) 0 0 0∧s 7= .ptr (H.length+2) 0 0 0∧s 11=du z0.rows∧s 12=du E) rfl ?_ ?_
 ·cases late
  ·rw[if_neg (by simp)]at hE t12
   simp -implicitDefEqProofs only[↓reduceIte,go_sem,Nat.reduceEqDiff,t6,t7,t11,t12,hE]
  ·have hrw:IntKind.u64.wrap (max rep 0)=(rep.toNat:Int):=by rw[bu _ (by omega) (by have:=hrep.2;omega)];omega
   have hwn:IntKind.u64.wrap (cT.length:Int)=(cT.length:Int):=bu _ (by omega) (by omega)
   rw[if_pos rfl]at hE t12 t13
   simp -implicitDefEqProofs only[go_sem]
   refine aR K.mixed (by kernel_rfl) ?_
   simp -implicitDefEqProofs only[↓reduceIte,go_sem,ae,Nat.reduceAdd,Nat.reduceLT,Nat.reduceLeDiff,Nat.reduceEqDiff,t6,t7,t12,t13,hlb,hqb,hrw]
   refine ab.ok (hn _) ?_
   simp -implicitDefEqProofs only[↓reduceIte,go_sem,Nat.reduceLT,Nat.reduceEqDiff,az,hwn]
   refine ab.ok (qc _ _ hlt.2 (by omega) _) ?_
   simp -implicitDefEqProofs only[↓reduceIte,go_sem,Nat.reduceLT,Nat.reduceEqDiff]
   refine ab.ok (gr _ _ (by have:=hrep.2;omega) (kU _ _) _) ?_
   simp -implicitDefEqProofs only[↓reduceIte,go_sem,Nat.reduceLT,Nat.reduceEqDiff]
   refine ab.ok (gr _ _ hlt.1 (eh _ _) _) ?_
   simp -implicitDefEqProofs only[↓reduceIte,go_sem,Nat.reduceLT,Nat.reduceEqDiff,hE,t6,t7,t11]
   rw[hqb,hlb]
 clear t6 t7 t11 t12 t13
 rintro s H' ⟨rfl,t6,t7,t11,t12⟩
 simp -implicitDefEqProofs only[go_sem]
 refine aP (fun k s H'=>H'=H++[pb,qb,lb]∧s 6= .ptr (H.length+1) 0 0 0∧s 7= .ptr (H.length+2) 0 0 0∧s 11=du z0.rows∧s 12=du (b6 E (dQ z0.rows k))∧s 16=iA k) (if range=true then 0 else q.aL.length) (by split<;>omega) (an.refl _ _) ?_ ?_ ?_
 ·refine⟨rfl,?_⟩
  simp -implicitDefEqProofs only[↓reduceIte,go_sem,Nat.reduceLT,Nat.reduceEqDiff,t6,t7,t11,t12,show b6 E (dQ z0.rows 0)=E from zi E hEl]
 ·rintro k s H' hk hw ⟨rfl,t6,t7,t11,t12,t16⟩
  have hr:range=false:=by cases range;rfl;simp at hk
  subst hr
  have hk2:k<q.aL.length:=by simpa using hk
  simp -implicitDefEqProofs only[↓reduceIte,go_sem,ae,Nat.reduceAdd,Nat.reduceLT,Nat.reduceLeDiff,Nat.reduceEqDiff,t6,t7,t16,hqb,hlb,List.length_map,hk2,t11,t12]
  refine ab.ok (gr _ _ (eh _ _) hrl _) ?_
  simp -implicitDefEqProofs only[↓reduceIte,go_sem,Nat.reduceLT,Nat.reduceEqDiff,t16]
  refine cO.same ⟨by rw[hqb,hlb],?_⟩
  simp -implicitDefEqProofs only[↓reduceIte,go_sem,Nat.reduceLT,Nat.reduceEqDiff,t6,t7,t11,hw,zd,nL]
 ·rintro s H' ⟨rfl,t6,t7,t11,t12,t16⟩
  cases range
  case' false=>
   rw[if_neg (by simp)]at t12 t16⊢
   simp -implicitDefEqProofs only[↓reduceIte,go_sem,ae,Nat.reduceAdd,Nat.reduceLT,Nat.reduceLeDiff,Nat.reduceEqDiff,reduceCtorEq,t6,t16,hqb,List.length_map,t12]
  case' true=>
   rw[if_pos rfl]at t12 t16⊢
   by_cases h0:0<(q.aL.length:Int)
   all_goals simp -implicitDefEqProofs only[↓reduceIte,go_sem,ae,Nat.reduceAdd,Nat.reduceLT,Nat.reduceLeDiff,Nat.reduceEqDiff,reduceCtorEq,t6,t7,t16,hqb,hlb,List.length_map,t12,h0]
  all_goals
   refine ao.ret ?_
   simp -implicitDefEqProofs only[↓reduceIte,go_sem,Nat.reduceLT]
theorem yn(p:Pj)(q:Qu)(pl:Pl)(l:List Atom)(Z:List Zn)(j:Nat):ox p q pl l Z j<18446744073709551616:=eh _ _
theorem Bl(p:Pj)(hp:p.Ok)(hps:p.pK)(q:Qu)(hq:q.Ok)(pl:Pl)(hpl:pl.order.length≤1000)(hrep:fV pl.rep)(H:aa):ah Tryz.prog 13 [p.av,q.av,pl.av] H (.ok (du (rB p q pl))) H:=by
 unfold rB
 have hlt:=lM p q pl
 have hst:=fun k=>(jb p q pl k).trans (tn p q pl _ k (hlt k))
 have h0:gd p q pl 0=0:=rfl
 generalize gd p q pl=F at*
 have hal:(bM q pl).length≤1000:=by
  unfold bM
  have:=hq.pred
  split
  ·exact Nat.le_trans (gA _ _) hpl
  ·omega
 have hgr:=fun(k:Nat) (hk:k<bn p.bk)=>oE (S:=p.bk) (k:=k) hk
 have hgd:=fun k (hk:fV k) H=>mo p hp k hk H
 have hpr:=fun k (hk:fV k) H=>rU p hp hps (bM q pl) false (by omega) k hk H
 have hgc:=fun(k:Nat) (hk:k<bn p.bk) H=>rK p hp.aE q hq pl hrep (bM q pl) (by omega) (aJ p.bk k) (fun z hz=>hp.eA hz) (fun z hz=>hps.ew hz) (by rw[(hgr k hk).1];simp;exact hp.len) (by rw[(hgr k hk).1];simpa using(hgr k hk).2) H
 have hor:=fun H=>mB q.pred pl.order false false H (by have:=hq.pred;omega) (by omega)
 have hgs:=fun H=>kp p H
 have hA:bM q pl=if pl.late then c8 q.pred pl.order else q.pred:=rfl
 have hgm:=hp.many
 generalize bM q pl=A at*
 generalize (if pl.range=true then 0 else q.aL.length)=jn at*
 have hgl:=fun k=>yn p q pl A (aJ p.bk k) jn
 obtain⟨pb,hpb⟩:∃pb,pb=aA.box 45 4 0 1 [.d (.list false (ints p.aE)),.d (.list false (ints p.key)),iA p.rows,.d (.list false (bC p.bk))]:=⟨_,rfl⟩
 obtain⟨qb,hqb⟩:∃qb,qb=aA.box 30 8 0 1 [.d q.table,.d (.list false (q.pred.map Atom.enc)),.d (.list false (q.aL.map jh)),.d (.list false (ints q.aE)),.d q.group,.d (.list false (q.bJ.map iE)),.d q.order,.d q.pN]:=⟨_,rfl⟩
 obtain⟨lb,hlb⟩:∃lb,lb=aA.box 32 5 0 1 [iA pl.proj,bA pl.late,.d (.list false (ints pl.order)),iA pl.rep,bA pl.range]:=⟨_,rfl⟩
 refine ah.aj (hint:=(fun _=>false)) Tryz.func13 (by kernel_rfl) rfl [6] (by kernel_rfl) (by decide) (by simp[Tryz.ntmps13]) ?_
 rw[Tryz.ntmps13]
 simp -implicitDefEqProofs only[↓reduceIte,go_sem,ae,Nat.reduceAdd,Nat.reduceLT,Nat.reduceLeDiff,Nat.reduceEqDiff,Pj.av,Pj.ds,Qu.av,Qu.ds,Pl.av,Pl.ds,iD]
 rw[←hqb,←hpb,←hlb]
 refine dX (fun s H'=>H'=H++[pb,qb,lb]∧s 3= .ptr H.length 0 0 0∧s 4= .ptr (H.length+1) 0 0 0∧s 5= .ptr (H.length+2) 0 0 0∧s 7= .d (.list false (A.map Atom.enc))) rfl ?_ ?_
 ·cases hl:pl.late
  case' false=>simp -implicitDefEqProofs only[↓reduceIte,go_sem,Nat.reduceLT,Nat.reduceEqDiff,hA,hl,Bool.false_eq_true]
  case' true=>
   simp -implicitDefEqProofs only[↓reduceIte,go_sem,ae,Nat.reduceAdd,Nat.reduceLT,Nat.reduceLeDiff,Nat.reduceEqDiff,hqb,hlb]
   refine ab.ok (hor _) ?_
   simp -implicitDefEqProofs only[↓reduceIte,go_sem,Nat.reduceLT,Nat.reduceEqDiff,hA,hl]
   rw[hqb,hlb,hl]
 rintro s H' ⟨rfl,t3,t4,t5,t7⟩
 simp -implicitDefEqProofs only[go_sem]
 refine aP (fun k s H'=>H'=H++[pb,qb,lb]∧s 3= .ptr H.length 0 0 0∧s 4= .ptr (H.length+1) 0 0 0∧s 5= .ptr (H.length+2) 0 0 0∧s 7= .d (.list false (A.map Atom.enc))∧s 8=du (F k)∧s 9=iA k) (bn p.bk) (by omega) (an.refl _ _) ?_ ?_ ?_
 ·refine⟨rfl,?_⟩
  simp -implicitDefEqProofs only[↓reduceIte,go_sem,Nat.reduceLT,Nat.reduceEqDiff,t3,t4,t5,t7,h0]
  rfl
 ·rintro k s H' hk hw ⟨rfl,t3,t4,t5,t7,t8,t9⟩
  have hki:fV k:=⟨by omega,by omega⟩
  have hsk:=hst k
  have hpk:=hpr k hki
  have hgk:=hgd k hki
  have hgck:=hgc k hk
  have hglk:=hgl k
  have hFk:=hlt k
  generalize aJ p.bk k=Z at*
  simp -implicitDefEqProofs only[↓reduceIte,go_sem,ae,Nat.reduceAdd,Nat.reduceLT,Nat.reduceEqDiff,t3,t9,hpb]
  refine ab.ok (hgs _) ?_
  simp -implicitDefEqProofs only[↓reduceIte,go_sem,ae,Nat.reduceAdd,Nat.reduceLT,Nat.reduceEqDiff,hk,t3,t7,t9]
  refine ab.ok (hpk _) ?_
  cases hpz:gR p Z A
  case' true=>
   rw[hpz,if_pos rfl]at hsk
   simp -implicitDefEqProofs only[↓reduceIte,go_sem,Nat.reduceLT,Nat.reduceEqDiff,t9]
  case' false=>
   rw[hpz,if_neg (by simp)]at hsk
   simp -implicitDefEqProofs only[↓reduceIte,go_sem,Nat.reduceLT]
   refine aR K.mixed (by kernel_rfl) ?_
   simp -implicitDefEqProofs only[↓reduceIte,go_sem,ae,Nat.reduceAdd,Nat.reduceLT,Nat.reduceEqDiff,t3,t4,t5,t7,t8,t9,hqb,hlb]
   refine ab.ok (hgk _) ?_
   simp -implicitDefEqProofs only[↓reduceIte,go_sem,Nat.reduceLT,Nat.reduceEqDiff]
   refine ab.ok (hgck _) ?_
   simp -implicitDefEqProofs only[↓reduceIte,go_sem,Nat.reduceLT,Nat.reduceEqDiff]
   refine ab.ok (gr _ _ hFk hglk _) ?_
   simp -implicitDefEqProofs only[↓reduceIte,go_sem,Nat.reduceLT,Nat.reduceEqDiff,t9]
  all_goals
   refine cO.same ⟨by simp only[hpb,hqb,hlb],?_⟩
   simp -implicitDefEqProofs only[↓reduceIte,go_sem,Nat.reduceLT,Nat.reduceEqDiff,t3,t4,t5,t7,t8,hw,hsk]
 ·rintro s H' ⟨rfl,t3,t4,t5,t7,t8,t9⟩
  simp -implicitDefEqProofs only[↓reduceIte,go_sem,ae,Nat.reduceAdd,Nat.reduceLT,Nat.reduceEqDiff,t3,t9,hpb]
  refine ab.ok (hgs _) ?_
  simp -implicitDefEqProofs only[↓reduceIte,go_sem,Nat.reduceLT,Nat.reduceEqDiff,t8]
  refine ao.ret ?_
  simp -implicitDefEqProofs only[↓reduceIte,go_sem,Nat.reduceLT]
theorem sS(S:List (List Sg)){k:Nat}(h:k<S.length):bC (S.take (k+1))=bC (S.take k)++[[.list false (S[k].map Sg.ds)]]:=by unfold bC;rw[List.take_succ_eq_append_getElem h,List.map_append];rfl
theorem zJ(l:List Sg){j:Nat}(h:j<l.length):(l.take (j+1)).map Sg.ds=(l.take j).map Sg.ds++[l[j].ds]:=by rw[List.take_succ_eq_append_getElem h,List.map_append];rfl
theorem sP(p:Pj)(hp:p.Ok)(H:aa):ah Tryz.prog 14 [p.av] H (.ok p.av) H:=by
 have hl:=hp.len
 have hm:=hp.many
 have hs:=hp.same
 obtain⟨cs,key,rows,S⟩:=p
 simp only at*
 generalize bn S=g at*
 refine ah.cG (hint:=fun t=>t==1000011||t==1000012) Tryz.func14 (by kernel_rfl) rfl [.cell 2 45] (by kernel_rfl) (by simp[Tryz.ntmps14]) ?_
 rw[Tryz.ntmps14]
 simp -implicitDefEqProofs only[↓reduceIte,go_sem,ae,aw,Nat.reduceAdd,Nat.reduceLT,Nat.reduceLeDiff,Nat.reduceEqDiff,Nat.reduceBEq,Pj.av,Pj.ds,iD]
 obtain⟨pb,hpb⟩:∃pb,pb=aA.box 36 4 0 1 [.d (.list false (ints cs)),.d (.list false (ints key)),.d (.v (.int .i64 rows)),.d (.list false (bC S))]:=⟨_,rfl⟩
 have hb:∀m,pb.below m=true:=by intro m;subst hpb;simp -implicitDefEqProofs only[go_sem]
 obtain⟨zb,hzb⟩:∃zb,zb=aA.box 45 4 0 1 ea:=⟨_,rfl⟩
 have hb2:∀m,zb.below m=true:=by intro m;subst hzb;simp -implicitDefEqProofs only[go_sem,ea]
 refine aP (fun i s H'=>H'=H++[pb,zb,.box 45 4 0 1 [.d (.list false (ints cs)),.d (.list false (ints key)),iA rows,.sl (H.length+3) i 0 i],.arr 109 1 i (bC (S.take i))]∧s 1= .ptr H.length 0 0 0∧s 2= .ptr (H.length+1) 0 0 0∧s 3= .ptr (H.length+2) 0 0 0∧s 4=iA i) S.length (by omega) (an.eg _ _ (H.length+2) 45 4 0 1 [.d (.list false (ints cs)),.d (.list false (ints key)),iA rows,.d (.v (.slice none 0 0))] 3 _ 109 1 (by decide) (by simp -implicitDefEqProofs only[go_sem]) rfl rfl) ?_ ?_ ?_
 ·refine⟨?_,?_⟩
  ·simp -implicitDefEqProofs only[go_sem,Nat.reduceAdd,hpb,hzb,ea,List.take_zero,bC]
  ·simp -implicitDefEqProofs only[↓reduceIte,go_sem,Nat.reduceLT,Nat.reduceEqDiff]
 ·rintro i s H' hi hw ⟨rfl,t1,t2,t3,t4⟩
  have hx:=lO hi
  have hli:=hs S[i] (List.getElem_mem hi)
  have e1:=sS S hi
  have e2:(bC (S.take i)).length=i:=by rw[cV,List.length_take];omega
  rw[e1]
  generalize bC (S.take i)=W at*
  generalize S[i]=l at*
  simp -implicitDefEqProofs only[↓reduceIte,go_sem,ae,Nat.reduceAdd,Nat.reduceLT,Nat.reduceEqDiff,Nat.reduceBEq,t1,t4,hpb,cV,hi]
  rw[←hpb]
  refine aP (fun j s H'=>H'=H++[pb,zb,.box 45 4 0 1 [.d (.list false (ints cs)),.d (.list false (ints key)),iA rows,.sl (H.length+3) i 0 i],.arr 109 1 i W,.arr 114 12 j ((l.take j).map Sg.ds)]∧s 1= .ptr H.length 0 0 0∧s 2= .ptr (H.length+1) 0 0 0∧s 3= .ptr (H.length+2) 0 0 0∧s 4=iA i∧s 5= .sl (H.length+4) j 0 j∧s 6=iA j) l.length (by omega) (an.fy _ _ 5 114 12 (by decide) (by simp -implicitDefEqProofs only[↓reduceIte,go_sem,Nat.reduceLT,Nat.reduceEqDiff]) _) ?_ ?_ ?_
  ·refine⟨?_,?_⟩
   ·simp -implicitDefEqProofs only[go_sem,List.take_zero]
   ·simp -implicitDefEqProofs only[↓reduceIte,go_sem,Nat.reduceAdd,Nat.reduceLT,Nat.reduceEqDiff,t1,t2,t3,t4]
  ·rintro j s H' hj hw2 ⟨rfl,t1,t2,t3,t4,t5,t6⟩
   have hy:(l.map Sg.ds)[j]?=some l[j].ds:=by simp[hj]
   have e3:=zJ l hj
   have e4:((l.take j).map Sg.ds).length=j:=by simp;omega
   rw[e3]
   generalize (l.take j).map Sg.ds=B at*
   generalize l[j]=sg at*
   obtain⟨sk,sw,⟨zr,zn,mn,mx⟩,ns,bd⟩:=sg
   simp -implicitDefEqProofs only[↓reduceIte,go_sem,ae,aw,Nat.reduceAdd,Nat.reduceLT,Nat.reduceLeDiff,Nat.reduceEqDiff,Nat.reduceBEq,t1,t4,t6,hpb,hx,hy,hj,List.length_map,Sg.ds,iD,t5,e4]
   rw[←hpb]
   refine⟨by omega,by omega,?_⟩
   refine cO.cut [pb,zb,.box 45 4 0 1 [.d (.list false (ints cs)),.d (.list false (ints key)),iA rows,.sl (H.length+3) i 0 i],.arr 109 1 i W,.arr 114 12 (j+1) (B++[Sg.ds ⟨sk,sw,⟨zr,zn,mn,mx⟩,ns,bd⟩])] _ 5 rfl rfl (by simp -implicitDefEqProofs only[go_sem,Nat.reduceLT,hb,hb2]) ?_
   refine⟨rfl,?_⟩
   simp -implicitDefEqProofs only[↓reduceIte,go_sem,Nat.reduceLT,Nat.reduceEqDiff,t1,t2,t3,t4,hw2]
  ·rintro s H' ⟨rfl,t1,t2,t3,t4,t5,t6⟩
   rw[List.take_length]
   have e5:(l.map Sg.ds).length=l.length:=by simp
   have e6:((l.map Sg.ds).drop 0).take l.length=l.map Sg.ds:=by rw[List.drop_zero];exact List.take_of_length_le (Nat.le_of_eq e5)
   simp -implicitDefEqProofs only[↓reduceIte,go_sem,ae,Nat.reduceAdd,Nat.reduceLT,Nat.reduceEqDiff,Nat.reduceBEq,t1,t4,t6,hpb,hx,List.length_map]
   rw[←hpb]
   refine⟨_,_,an.cut [pb,zb,.box 45 4 0 1 [.d (.list false (ints cs)),.d (.list false (ints key)),iA rows,.sl (H.length+3) i 0 i],.arr 109 1 i W] [.arr 114 12 l.length (l.map Sg.ds)] 4 rfl _ (by simp -implicitDefEqProofs only[go_sem,Nat.reduceLT,hb,hb2]),?_⟩
   generalize l.map Sg.ds=ld at*
   simp -implicitDefEqProofs only[↓reduceIte,go_sem,ae,aw,Nat.reduceAdd,Nat.reduceLT,Nat.reduceLeDiff,Nat.reduceEqDiff,Nat.reduceBEq,t3,t4,t5,e2,List.take_of_length_le (Nat.le_of_eq e5)]
   refine⟨by omega,by omega,cO.same ⟨rfl,?_⟩⟩
   simp -implicitDefEqProofs only[↓reduceIte,go_sem,Nat.reduceLT,Nat.reduceEqDiff,t1,t2,t3,hw]
 ·rintro s H' ⟨rfl,t1,t2,t3,t4⟩
  rw[List.take_length]
  have e5:(bC S).length=S.length:=cV S
  simp -implicitDefEqProofs only[↓reduceIte,go_sem,ae,Nat.reduceAdd,Nat.reduceLT,Nat.reduceEqDiff,Nat.reduceBEq,t1,t4,hpb,cV]
  refine⟨_,_,an.pY _ _ (H.length+2) 4 0 1 3 (H.length+3) S.length 0 S.length 1 45 109 [.d (.list false (ints cs)),.d (.list false (ints key)),iA rows,.sl (H.length+3) S.length 0 S.length] (bC S) (by simp -implicitDefEqProofs only[go_sem]) rfl (by simp -implicitDefEqProofs only[go_sem]),?_⟩
  simp -implicitDefEqProofs only[↓reduceIte,go_sem,ae,aw,Nat.reduceAdd,Nat.reduceLT,Nat.reduceEqDiff,t2,t3,hzb,ea,List.take_of_length_le (Nat.le_of_eq e5)]
  refine cY.ret ?_
  simp -implicitDefEqProofs only[↓reduceIte,go_sem,ae,Nat.reduceAdd,Nat.reduceLeDiff,Nat.reduceEqDiff,bR,cZ,t2,Pj.av,Pj.ds,iD]
theorem q5{z:Zn}{v:ak}(hz:z.pK)(hv:v.s.size≤140737488351232):(aV z v).pK:=by
 have h1:(fE z v).pK:=by unfold fE;split;exact⟨hv,hv⟩;exact hz
 have h2:(fP (fE z v) v).pK:=by unfold fP;split;exact⟨hv,h1.mx⟩;exact h1
 unfold aV
 split
 ·exact⟨hz.mn,hz.mx⟩
 ·unfold gi;split;exact⟨h2.mn,hv⟩;exact h2
theorem yW{l:List ak}(h:∀v∈l,v.s.size≤140737488351232):(n6 l).pK:=by
 have:∀(l:List ak) (z:Zn),(∀v∈l,v.s.size≤140737488351232)→z.pK→(l.foldl aV z).pK:=by
  intro l
  induction l with
  |nil=>exact fun z _ hz=>hz
  |cons v l ih=>exact fun z hl hz=>ih _ (fun x hx=>hl x (by simp[hx])) (q5 hz (hl v (by simp)))
 exact this l _ h ⟨show iv.size≤140737488351232 by decide,show iv.size≤140737488351232 by decide⟩
theorem jP.str{R:List (List ak)}{ks cs key:List Int}{w:Int}{p:Pj}(h:jP R ks cs key w p)(hR:ve R):p.pK:=by
 refine⟨fun l hl s hs=>?_⟩
 have hp:=h.pieces
 rw[h.eq]at hl
 obtain⟨c,hc,rfl⟩:=List.mem_map.1 hl
 obtain⟨x,hx,rfl⟩:=List.mem_map.1 hs
 have h0:=hp c hc x hx
 obtain⟨q,hq,rfl⟩:=List.mem_map.1 hx
 rw[oo h0]
 refine yW fun v hv=>?_
 obtain⟨r,hr,rfl⟩:=List.mem_map.1 hv
 have hr2:r∈R:=by
  unfold oQ at hq
  obtain⟨k,_,rfl⟩:=List.mem_map.1 hq
  exact(St.eZ (js key).ord).1 (List.mem_of_mem_drop (List.mem_of_mem_take hr))
 unfold gn
 split
 ·decide
 ·rw[List.getD_eq_getElem?_getD]
  cases e:r[c.toNat]? with
  |none=>decide
  |some v=>exact(hR.val r hr2 v (List.mem_of_getElem? e)).s
def Qu.small(n:Nat)(q:Qu):Prop:=q.pred.length≤n∧q.aL.length≤n∧q.aE.length≤n∧q.bJ.length≤n
instance (n:Nat) (q:Qu):Decidable (q.small n):=by unfold Qu.small;infer_instance
theorem Qu.small.ok{n:Nat}{q:Qu}(h:q.small n)(hn:n≤100):q.Ok:=by obtain⟨h1,h2,h3,h4⟩:=h;exact⟨by omega,by omega,by omega,by omega⟩
theorem qF(q:Qu)(H:aa):ah Tryz.prog 11 [q.av] H (.ok (bA (decide (q.small 10)))) H:=by
 have c1:∀n:Nat,((n:Int)≤10)=(n≤10):=fun n=>by simp;omega
 unfold Qu.small
 refine ah.aj (hint:=(fun _=>false)) Tryz.func11 (by kernel_rfl) rfl [2] (by kernel_rfl) (by decide) (by simp[Tryz.ntmps11]) ?_
 rw[Tryz.ntmps11]
 simp -implicitDefEqProofs only[↓reduceIte,go_sem,ae,Nat.reduceAdd,Nat.reduceLT,Nat.reduceLeDiff,Nat.reduceEqDiff,Qu.av,Qu.ds]
 by_cases h1:q.pred.length≤10
 case' pos=>
  by_cases h2:q.aL.length≤10
  case' pos=>
   by_cases h3:q.aE.length≤10
   case' pos=>by_cases h4:q.bJ.length≤10
 all_goals
  simp -implicitDefEqProofs only[↓reduceIte,go_sem,ae,Nat.reduceAdd,Nat.reduceLT,Nat.reduceLeDiff,Nat.reduceEqDiff,reduceCtorEq,List.length_map,az, *]
  refine ao.ret ?_
  simp -implicitDefEqProofs only[↓reduceIte,go_sem,Nat.reduceLT]<;>simp[*]
theorem EY{x:AV}(h:jm Tryz.prog 30 x):∃q:Qu,x=q.av:=by
 obtain⟨ds,rfl,hf⟩:=rj h K.CS (shs:=[.int .i64,.slice 48 qw,.slice 48 [.int .i64,.int .i64,.int .i64,.slice 48 qw],.slice 8 [.int .i64],.bool,.slice 16 [.int .i64,.int .i64],.slice 8 [.int .i64],.int .i64]) (by kernel_rfl)
 obtain⟨x0,_,rfl,h0,h⟩:=aU.cons_inv hf
 obtain⟨x1,_,rfl,h1,h⟩:=aU.cons_inv h
 obtain⟨x2,_,rfl,h2,h⟩:=aU.cons_inv h
 obtain⟨x3,_,rfl,h3,h⟩:=aU.cons_inv h
 obtain⟨x4,_,rfl,h4,h⟩:=aU.cons_inv h
 obtain⟨x5,_,rfl,h5,h⟩:=aU.cons_inv h
 obtain⟨x6,_,rfl,h6,h⟩:=aU.cons_inv h
 obtain⟨x7,_,rfl,h7,h⟩:=aU.cons_inv h
 cases aU.fR h
 obtain⟨pred,rfl,_,_⟩:=yj h1
 obtain⟨aE,rfl,_,_⟩:=iN h3
 obtain⟨l2,rfl,_,g2⟩:=Fits.e8 h2
 obtain⟨l5,rfl,_,g5⟩:=Fits.e8 h5
 obtain⟨aL,rfl,_⟩:=gU (enc:=jh) (p:=fun _=>True) fun e he=>by
  obtain⟨a,_,rfl,ha,h⟩:=aU.cons_inv (g2 e he)
  obtain⟨b,_,rfl,_,h⟩:=aU.cons_inv h
  obtain⟨c,_,rfl,_,h⟩:=aU.cons_inv h
  obtain⟨d,_,rfl,_,h⟩:=aU.cons_inv h
  cases aU.fR h
  obtain⟨n,rfl,_⟩:=Fits.ep ha
  exact⟨(n,b,c,d),rfl,trivial⟩
 obtain⟨bJ,rfl,_⟩:=gU (enc:=iE) (p:=fun _=>True) fun e he=>by
  obtain⟨a,_,rfl,ha,h⟩:=aU.cons_inv (g5 e he)
  obtain⟨b,_,rfl,hb,h⟩:=aU.cons_inv h
  cases aU.fR h
  obtain⟨n,rfl,_⟩:=Fits.ep ha
  obtain⟨m,rfl,_⟩:=Fits.ep hb
  exact⟨(n,m),rfl,trivial⟩
 exact⟨⟨x0,pred,aL,aE,x4,bJ,x6,x7⟩,rfl⟩
theorem Gq{x:AV}(h:jm Tryz.prog 32 x):∃p:Pl,x=p.av∧fV p.proj∧fV p.rep∧p.order.length≤100000000000000:=by
 obtain⟨ds,rfl,hf⟩:=rj h K.CU (shs:=[.int .i64,.bool,.slice 8 [.int .i64],.int .i64,.bool]) (by kernel_rfl)
 obtain⟨x0,_,rfl,h0,h⟩:=aU.cons_inv hf
 obtain⟨x1,_,rfl,h1,h⟩:=aU.cons_inv h
 obtain⟨x2,_,rfl,h2,h⟩:=aU.cons_inv h
 obtain⟨x3,_,rfl,h3,h⟩:=aU.cons_inv h
 obtain⟨x4,_,rfl,h4,h⟩:=aU.cons_inv h
 cases aU.fR h
 obtain⟨a,rfl,ha⟩:=Fits.ep h0
 obtain⟨b,rfl⟩:=Fits.tR h1
 obtain⟨o,rfl,ho,_⟩:=iN h2
 obtain⟨r,rfl,hr⟩:=Fits.ep h3
 obtain⟨g,rfl⟩:=Fits.tR h4
 exact⟨⟨a,b,o,r,g⟩,rfl,ha,hr,by simp only;omega⟩
theorem mW(l m:List Atom)(n1 n2:Bool)(H:aa)(hl:l.length≤1000000000):
  ah Tryz.prog 18 [.d (.list n1 (l.map Atom.enc)),.d (.list n2 (m.map Atom.enc))] H (.ok (bA (decide (l=m)))) H:=by
 refine ah.aj (hint:=(fun _=>false)) Tryz.func18 (by kernel_rfl) rfl [4] (by kernel_rfl) (by decide) (by simp[Tryz.ntmps18]) ?_
 rw[Tryz.ntmps18]
 by_cases hlm:l.length=m.length
 ·simp -implicitDefEqProofs only[↓reduceIte,go_sem,Nat.reduceLT,Nat.reduceEqDiff,reduceCtorEq,hlm,List.length_map]
  refine aP (fun k s H'=>H'=H∧l.take k=m.take k∧s 0= .d (.list n1 (l.map Atom.enc))∧s 1= .d (.list n2 (m.map Atom.enc))∧s 5=iA k) l.length (by omega) (an.refl _ _) ?_ ?_ ?_
  ·simp -implicitDefEqProofs only[↓reduceIte,go_sem,Nat.reduceLT,Nat.reduceEqDiff,reduceCtorEq,List.take_zero]
  ·rintro k s H' hk hw ⟨rfl,hp,h0,h1,h5⟩
   have hx:=List.getElem?_eq_getElem hk
   have hy:=List.getElem?_eq_getElem (show k<m.length by omega)
   have e1:=List.take_succ_eq_append_getElem hk
   have e2:=List.take_succ_eq_append_getElem (show k<m.length by omega)
   have e3:∀(g:l=m),l[k]=m[k]'(by omega):=by intro g;subst g;rfl
   generalize l[k]=x at hx e1 e3
   generalize m[k]'(by omega)=y at hy e2 e3
   simp -implicitDefEqProofs only[↓reduceIte,go_sem,Nat.reduceLT,Nat.reduceEqDiff,reduceCtorEq,h0,h5,hk]
   refine aR K.mixed (by kernel_rfl) ?_
   by_cases hxy:x=y
   ·simp -implicitDefEqProofs only[↓reduceIte,go_sem,Nat.reduceAdd,Nat.reduceLT,Nat.reduceEqDiff,reduceCtorEq,h0,h1,h5,hx,hy,Atom.enc,sN,hxy]
    refine cO.same ⟨rfl,by rw[e1,e2,hp,hxy],?_⟩
    simp -implicitDefEqProofs only[↓reduceIte,go_sem,Nat.reduceLT,Nat.reduceEqDiff,reduceCtorEq,h0,h1,hw]
   ·simp -implicitDefEqProofs only[↓reduceIte,go_sem,Nat.reduceAdd,Nat.reduceLT,Nat.reduceEqDiff,reduceCtorEq,h0,h1,h5,hx,hy,Atom.enc,sN,hxy]
    refine ao.aF ?_
    simp -implicitDefEqProofs only[↓reduceIte,go_sem,Nat.reduceLT,show ¬l=m from fun g=>hxy (e3 g)]
  ·rintro s H' ⟨rfl,hp,h0,h1,h5⟩
   simp -implicitDefEqProofs only[↓reduceIte,go_sem,Nat.reduceLT,Nat.reduceEqDiff,reduceCtorEq,h0,h5]
   refine ao.aF ?_
   rw[List.take_length,hlm,List.take_length]at hp
   simp -implicitDefEqProofs only[↓reduceIte,go_sem,Nat.reduceLT,hp]
 ·simp -implicitDefEqProofs only[↓reduceIte,go_sem,Nat.reduceLT,Nat.reduceEqDiff,reduceCtorEq,List.length_map,show((l.length:Int)=(m.length:Int))=False from eq_false (by omega)]
  refine ao.aF ?_
  simp -implicitDefEqProofs only[↓reduceIte,go_sem,Nat.reduceLT,show ¬l=m from fun g=>hlm (by rw[g])]
theorem nF(t:gI)(ht:t.Ok)(q:Qu)(pl:Pl)(hrep:fV pl.rep)(H:aa):ah Tryz.prog 3 [t.av,q.av,pl.av] H (.ok (bA true)) H:=by
 have hof:=fun H=>y1 t ht H
 have hm:=xR (t:=t)
 generalize vj t=pb at*
 obtain⟨p,b⟩:=pb
 simp only at hof hm
 have hsm:=fun H=>qF q H
 refine ah.aj (hint:=(fun _=>false)) Tryz.func3 (by kernel_rfl) rfl [6] (by kernel_rfl) (by decide) (by simp[Tryz.ntmps3]) ?_
 rw[Tryz.ntmps3]
 simp -implicitDefEqProofs only[↓reduceIte,go_sem,Nat.reduceAdd,Nat.reduceLT,Nat.reduceEqDiff,gI.av,gI.ds,Qu.av,Qu.ds,Pl.av,Pl.ds]
 refine ab.ok (qp _) ?_
 simp -implicitDefEqProofs only[↓reduceIte,go_sem,ae,Nat.reduceAdd,Nat.reduceLT,Nat.reduceEqDiff]
 refine ab.ok (hof _) ?_
 cases b with
 |false=>
  simp -implicitDefEqProofs only[↓reduceIte,go_sem,aw,Nat.reduceAdd,Nat.reduceLT,Nat.reduceEqDiff,Pj.av,Pj.ds]
  refine ao.ret ?_
  simp -implicitDefEqProofs only[↓reduceIte,go_sem,Nat.reduceLT]
 |true=>
 simp -implicitDefEqProofs only[↓reduceIte,go_sem,ae,aw,Nat.reduceAdd,Nat.reduceLT,Nat.reduceEqDiff,Pj.av,Pj.ds]
 refine ab.ok (hsm _) ?_
 by_cases hs:q.small 10
 case neg=>
  simp -implicitDefEqProofs only[↓reduceIte,go_sem,Nat.reduceLT,Nat.reduceEqDiff,reduceCtorEq,hs]
  refine ao.ret ?_
  simp -implicitDefEqProofs only[↓reduceIte,go_sem,Nat.reduceLT]
 by_cases h20:20<(pl.order.length:Int)
 ·simp -implicitDefEqProofs only[↓reduceIte,go_sem,ae,Nat.reduceAdd,Nat.reduceLT,Nat.reduceLeDiff,Nat.reduceEqDiff,reduceCtorEq,hs,az,h20]
  refine ao.ret ?_
  simp -implicitDefEqProofs only[↓reduceIte,go_sem,Nat.reduceLT]
 obtain⟨hmd,hc20,hR⟩:=hm rfl
 have hok:=hmd.ok (by omega)
 have hst:=hmd.str ht.rows
 have hq:=hs.ok (by omega)
 have hpd:=hq.pred
 have hnl:=q.jE hq
 have hle:=gA q.pred pl.order
 have h1:=fun H=>tA p hok q hq pl (by omega) hrep H
 have h2:=fun H=>sP p hok H
 have h3:=fun H=>Bl p hok hst q hq pl (by omega) hrep H
 have h4:=fun H=>j1 q hq H
 have h5:=fun H=>j6 q hq H
 have h6:=fun H=>si q.cT q.cT false false H (by omega)
 have h7:=fun H=>mD q.pred pl.order false false H (by omega) (by omega)
 have h8:=fun H=>mB q.pred pl.order false false H (by omega) (by omega)
 simp -implicitDefEqProofs only[↓reduceIte,go_sem,ae,Nat.reduceAdd,Nat.reduceLT,Nat.reduceLeDiff,Nat.reduceEqDiff,reduceCtorEq,hs,az,h20]
 refine aR K.mixed (by kernel_rfl) ?_
 simp -implicitDefEqProofs only[↓reduceIte,go_sem,ae,Nat.reduceAdd,Nat.reduceLT,Nat.reduceEqDiff]
 refine ab.ok (h1 _) ?_
 simp -implicitDefEqProofs only[↓reduceIte,go_sem,ae,Nat.reduceAdd,Nat.reduceLT,Nat.reduceEqDiff]
 refine ab.ok (h2 _) ?_
 simp -implicitDefEqProofs only[↓reduceIte,go_sem,ae,Nat.reduceAdd,Nat.reduceLT,Nat.reduceEqDiff]
 refine ab.ok (h3 _) ?_
 simp -implicitDefEqProofs only[↓reduceIte,go_sem,ae,Nat.reduceAdd,Nat.reduceLT,Nat.reduceEqDiff]
 refine ab.ok (h4 _) ?_
 simp -implicitDefEqProofs only[↓reduceIte,go_sem,ae,Nat.reduceAdd,Nat.reduceLT,Nat.reduceEqDiff]
 refine ab.ok (h5 _) ?_
 simp -implicitDefEqProofs only[↓reduceIte,go_sem,Nat.reduceLT,Nat.reduceEqDiff]
 refine ab.ok (h6 _) ?_
 simp -implicitDefEqProofs only[↓reduceIte,go_sem,ae,Nat.reduceAdd,Nat.reduceLT,Nat.reduceLeDiff,Nat.reduceEqDiff]
 refine ab.ok (h7 _) ?_
 simp -implicitDefEqProofs only[↓reduceIte,go_sem,ae,Nat.reduceAdd,Nat.reduceLT,Nat.reduceLeDiff,Nat.reduceEqDiff]
 refine ab.ok (h8 _) ?_
 simp -implicitDefEqProofs only[↓reduceIte,go_sem,Nat.reduceLT,Nat.reduceEqDiff]
 refine ab.ok (mW _ _ false false _ (by omega)) ?_
 simp -implicitDefEqProofs only[↓reduceIte,go_sem,Nat.reduceLT,Nat.reduceEqDiff]
 refine ao.ret ?_
 simp -implicitDefEqProofs only[↓reduceIte,go_sem,Nat.reduceLT]
theorem costPlans_does(x0:AV)(h0:jm Tryz.prog 25 x0)(x1:AV)(h1:jm Tryz.prog 30 x1)(x2:AV)(h2:jm Tryz.prog 32 x2):ah Tryz.prog 3 [x0,x1,x2] [] (.ok (.d (.v (.bool true)))) []:=by
 obtain⟨t,rfl,ht⟩:=Cl h0
 obtain⟨q,rfl⟩:=EY h1
 obtain⟨pl,rfl,_,hr,ho⟩:=Gq h2
 exact nF t ht q pl hr []
end Go.Proofs.YtggohfhfocgilaaGreat

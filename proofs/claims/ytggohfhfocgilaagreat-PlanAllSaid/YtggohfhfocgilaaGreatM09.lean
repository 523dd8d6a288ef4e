/- Contracts of functions and lemmas for planAll_holds, part 9. -/
import Derived.Laws.Externs
import Derived.Laws.Bits64b
import Derived.Lib.Mul64
import Derived.Test.YtggohfhfocgilaaGreatM08
set_option maxHeartbeats 8000000
set_option maxRecDepth 100000
set_option linter.all false
namespace Go.Proofs.YtggohfhfocgilaaGreat
open Go.Proofs.YtggohfhfocgilaaGreatAw Go.RowKit
abbrev Zn.av(z:Zn):AV:= .agg [iA z.rows,iA z.cD,iA z.mn.kind,iA z.mn.i,sA z.mn.s,iA z.mx.kind,iA z.mx.i,sA z.mx.s]
def va(z:Zn)(a:Atom):Bool:=
 if a.op=1 then decide (aO a.val z.mn<0)||decide (aO z.mx a.val<0)else if a.op=2 then decide (aO z.mn a.val=0)&&decide (aO z.mx a.val=0)else if a.op=3 then !decide (aO z.mn a.val<0)
 else if a.op=4 then decide (aO a.val z.mn<0)else if a.op=5 then !decide (aO a.val z.mx<0)else if a.op=6 then decide (aO z.mx a.val<0)else true
def gm(z:Zn)(a:Atom):Bool:=
 if a.op=7 then decide (z.cD=0)else if a.op=8∨z.rows≤z.cD then decide (z.rows≤z.cD)else if z.mn.kind≠a.val.kind then true else va z a
def jw(o:Int):Int:=if o=1 then 2 else if o=2 then 1 else if o=3 then 6 else if o=4 then 5 else if o=5 then 4 else if o=6 then 3 else 0
def kU(z:Zn)(a:Atom):Bool:=
 if a.op=7 then decide (z.rows≤z.cD)else if a.op=8 then decide (z.cD=0)else if jw a.op=0∨0<z.cD∨z.mn.kind≠a.val.kind then false else gm z ⟨a.dN,jw a.op,a.val⟩
def jG(z:Zn)(a:Atom):Nat:=if gm z a then 0 else if kU z a then z.rows else z.rows/2+z.rows%2
theorem jj(a b:al)(H:aa):ag Tryz.prog 176 [a.av,b.av] H (.ok (bA (decide (aO a b<0)))) H:=by
 refine ag.ai (hint:=(fun _=>false)) Tryz.func176 (by kernel_rfl) rfl [4] (by kernel_rfl) (by decide) (by simp[Tryz.ntmps176]) ?_
 rw[Tryz.ntmps176]
 simp -implicitDefEqProofs only[↓reduceIte,go_sem,ab,Nat.reduceAdd,Nat.reduceLT,Nat.reduceEqDiff]
 refine ae.ok (cF _ _ _) ?_
 simp -implicitDefEqProofs only[↓reduceIte,go_sem,Nat.reduceLT]
 refine an.ret ?_
 simp -implicitDefEqProofs only[↓reduceIte,go_sem,Nat.reduceLT]
theorem AH(z:Zn)(a:Atom)(H:aa):ag Tryz.prog 143 [z.av,a.av] H (.ok (bA (va z a))) H:=by
 have h1:=fun H=>jj a.val z.mn H
 have h2:=fun H=>jj z.mx a.val H
 have h3:=fun H=>jj z.mn a.val H
 have h4:=fun H=>jj a.val z.mx H
 have h5:=fun H=>cF z.mn a.val H
 have h6:=fun H=>cF z.mx a.val H
 unfold va
 generalize decide (aO a.val z.mn<0)=b1 at*
 generalize decide (aO z.mx a.val<0)=b2 at*
 generalize decide (aO z.mn a.val<0)=b3 at*
 generalize decide (aO a.val z.mx<0)=b4 at*
 generalize aO z.mn a.val=c5 at*
 generalize aO z.mx a.val=c6 at*
 obtain⟨ac,o,av⟩:=a
 simp only at h1 h2 h3 h4 h5 h6⊢
 refine ag.ai (hint:=(fun _=>false)) Tryz.func143 (by kernel_rfl) rfl [4] (by kernel_rfl) (by decide) (by simp[Tryz.ntmps143]) ?_
 rw[Tryz.ntmps143]
 simp -implicitDefEqProofs only[↓reduceIte,go_sem,ab,aq,Nat.reduceAdd,Nat.reduceLT,Nat.reduceLeDiff,Nat.reduceEqDiff]
 by_cases o1:o=1
 ·simp -implicitDefEqProofs only[↓reduceIte,go_sem,ab,Nat.reduceAdd,Nat.reduceLT,Nat.reduceLeDiff,Nat.reduceEqDiff,o1]
  refine ae.ok (h1 _) ?_
  cases b1
  case' false=>
   simp -implicitDefEqProofs only[↓reduceIte,go_sem,ab,Nat.reduceAdd,Nat.reduceLT,Nat.reduceEqDiff]
   refine ae.ok (h2 _) ?_
  all_goals
   simp -implicitDefEqProofs only[↓reduceIte,go_sem,Nat.reduceLT,Nat.reduceEqDiff,reduceCtorEq]
   refine an.ret ?_
   simp -implicitDefEqProofs only[↓reduceIte,go_sem,Nat.reduceLT]<;>simp[*]
 by_cases o2:o=2
 ·simp -implicitDefEqProofs only[↓reduceIte,go_sem,ab,Nat.reduceAdd,Nat.reduceLT,Nat.reduceLeDiff,Nat.reduceEqDiff,Int.reduceEq,o2]
  refine ae.ok (h5 _) ?_
  by_cases e5:c5=0
  case' pos=>
   simp -implicitDefEqProofs only[↓reduceIte,go_sem,ab,Nat.reduceAdd,Nat.reduceLT,Nat.reduceEqDiff,e5]
   refine ae.ok (h6 _) ?_
  all_goals
   simp -implicitDefEqProofs only[↓reduceIte,go_sem,Nat.reduceLT,Nat.reduceEqDiff,reduceCtorEq,e5]
   refine an.ret ?_
   simp -implicitDefEqProofs only[↓reduceIte,go_sem,Nat.reduceLT]<;>simp[*]
 by_cases o3:o=3
 case' pos=>
  simp -implicitDefEqProofs only[↓reduceIte,go_sem,ab,Nat.reduceAdd,Nat.reduceLT,Nat.reduceLeDiff,Nat.reduceEqDiff,Int.reduceEq,o3]
  refine ae.ok (h3 _) ?_
 case' neg=>
  by_cases o4:o=4
  case' pos=>
   simp -implicitDefEqProofs only[↓reduceIte,go_sem,ab,Nat.reduceAdd,Nat.reduceLT,Nat.reduceLeDiff,Nat.reduceEqDiff,Int.reduceEq,o4]
   refine ae.ok (h1 _) ?_
  case' neg=>
   by_cases o5:o=5
   case' pos=>
    simp -implicitDefEqProofs only[↓reduceIte,go_sem,ab,Nat.reduceAdd,Nat.reduceLT,Nat.reduceEqDiff,Int.reduceEq,o5]
    refine ae.ok (h4 _) ?_
   case' neg=>
    by_cases o6:o=6
    case' pos=>
     simp -implicitDefEqProofs only[↓reduceIte,go_sem,ab,Nat.reduceAdd,Nat.reduceLT,Nat.reduceEqDiff,Int.reduceEq,o6]
     refine ae.ok (h2 _) ?_
    case' neg=>simp -implicitDefEqProofs only[↓reduceIte,go_sem,Nat.reduceLT,Nat.reduceEqDiff,o1,o2,o3,o4,o5,o6]
 all_goals
  simp -implicitDefEqProofs only[↓reduceIte,go_sem,Nat.reduceLT]
  refine an.ret ?_
  simp -implicitDefEqProofs only[↓reduceIte,go_sem,Nat.reduceLT]<;>simp[*]
theorem su(n:Nat):((n:Int)≤0)=(n=0):=by simp
theorem mN(z:Zn)(a:Atom)(H:aa):ag Tryz.prog 97 [z.av,a.av] H (.ok (bA (gm z a))) H:=by
 have he:=fun H=>AH z a H
 unfold gm
 generalize va z a=e at*
 obtain⟨ac,o,av⟩:=a
 simp only at he⊢
 refine ag.ai (hint:=(fun _=>false)) Tryz.func97 (by kernel_rfl) rfl [4] (by kernel_rfl) (by decide) (by simp[Tryz.ntmps97]) ?_
 rw[Tryz.ntmps97]
 simp -implicitDefEqProofs only[↓reduceIte,go_sem,ab,Nat.reduceAdd,Nat.reduceLT,Nat.reduceLeDiff,Nat.reduceEqDiff]
 by_cases o7:o=7
 case' pos=>simp -implicitDefEqProofs only[↓reduceIte,go_sem,ab,Nat.reduceAdd,Nat.reduceLT,Nat.reduceLeDiff,Nat.reduceEqDiff,o7,su]
 case' neg=>
  by_cases o8:o=8
  case' pos=>simp -implicitDefEqProofs only[↓reduceIte,go_sem,ab,Nat.reduceAdd,Nat.reduceLT,Nat.reduceLeDiff,Nat.reduceEqDiff,Int.reduceEq,o8]
  case' neg=>
   by_cases hb:z.rows≤z.cD
   case' pos=>simp -implicitDefEqProofs only[↓reduceIte,go_sem,ab,Nat.reduceAdd,Nat.reduceLT,Nat.reduceLeDiff,Nat.reduceEqDiff,reduceCtorEq,o7,o8,hb]
   case' neg=>
    simp -implicitDefEqProofs only[↓reduceIte,go_sem,ab,Nat.reduceAdd,Nat.reduceLT,Nat.reduceLeDiff,Nat.reduceEqDiff,reduceCtorEq,o7,o8,hb]
    by_cases hk:z.mn.kind=av.kind
    case' pos=>
     simp -implicitDefEqProofs only[↓reduceIte,go_sem,ab,Nat.reduceAdd,Nat.reduceLT,Nat.reduceEqDiff,eq_true hk]
     refine ae.ok (he _) ?_
     simp -implicitDefEqProofs only[↓reduceIte,go_sem,Nat.reduceLT,Nat.reduceEqDiff,reduceCtorEq,eq_true hk]
    case' neg=>simp -implicitDefEqProofs only[↓reduceIte,go_sem,Nat.reduceLT,Nat.reduceEqDiff,eq_false hk]
 all_goals
  refine an.ret ?_
  simp -implicitDefEqProofs only[↓reduceIte,go_sem,Nat.reduceLT]<;>simp[*]
theorem vl(o:Int)(H:aa):ag Tryz.prog 177 [iA o] H (.ok (iA (jw o))) H:=by
 refine ag.ai (hint:=(fun _=>false)) Tryz.func177 (by kernel_rfl) rfl [2] (by kernel_rfl) (by decide) (by simp[Tryz.ntmps177]) ?_
 rw[Tryz.ntmps177]
 simp -implicitDefEqProofs only[↓reduceIte,go_sem,aq,Nat.reduceAdd,Nat.reduceLT,Nat.reduceLeDiff,Nat.reduceEqDiff,reduceCtorEq]
 by_cases h0:o<0
 case' pos=>simp -implicitDefEqProofs only[↓reduceIte,go_sem,Nat.reduceLT,Nat.reduceEqDiff,h0]
 case' neg=>
  by_cases h7:7≤o
  case' pos=>simp -implicitDefEqProofs only[↓reduceIte,go_sem,Nat.reduceLT,Nat.reduceEqDiff,reduceCtorEq,h0,h7]
  case' neg=>
   obtain⟨n,rfl⟩:=Int.eq_ofNat_of_zero_le (show 0≤o by omega)
   rcases n with _|_|_|_|_|_|_|n
   case' succ.succ.succ.succ.succ.succ.succ=>omega
   all_goals simp -implicitDefEqProofs only[↓reduceIte,go_sem,ab,Nat.reduceAdd,Nat.reduceLT,Nat.reduceLeDiff,Nat.reduceEqDiff,Int.reduceLE,Int.reduceLT,Int.reduceToNat,reduceCtorEq]
 all_goals
  refine an.ret ?_
  simp -implicitDefEqProofs only[↓reduceIte,go_sem,Nat.reduceAdd,Nat.reduceLT]<;>first|rfl|(unfold jw;repeat rw[if_neg (by omega)])
theorem wT(z:Zn)(a:Atom)(H:aa):ag Tryz.prog 144 [z.av,a.av] H (.ok (bA (kU z a))) H:=by
 have he:=fun H=>mN z ⟨a.dN,jw a.op,a.val⟩ H
 have ht:=fun H=>vl a.op H
 unfold kU
 generalize gm z ⟨a.dN,jw a.op,a.val⟩=e at*
 obtain⟨ac,o,av⟩:=a
 simp only at he ht⊢
 generalize jw o=t at*
 refine ag.ai (hint:=(fun _=>false)) Tryz.func144 (by kernel_rfl) rfl [4] (by kernel_rfl) (by decide) (by simp[Tryz.ntmps144]) ?_
 rw[Tryz.ntmps144]
 simp -implicitDefEqProofs only[↓reduceIte,go_sem,ab,Nat.reduceAdd,Nat.reduceLT,Nat.reduceLeDiff,Nat.reduceEqDiff]
 by_cases o7:o=7
 case' pos=>simp -implicitDefEqProofs only[↓reduceIte,go_sem,ab,Nat.reduceAdd,Nat.reduceLT,Nat.reduceLeDiff,Nat.reduceEqDiff,o7]
 case' neg=>
  by_cases o8:o=8
  case' pos=>simp -implicitDefEqProofs only[↓reduceIte,go_sem,ab,Nat.reduceAdd,Nat.reduceLT,Nat.reduceLeDiff,Nat.reduceEqDiff,Int.reduceEq,o8,su]
  case' neg=>
   simp -implicitDefEqProofs only[↓reduceIte,go_sem,ab,Nat.reduceAdd,Nat.reduceLT,Nat.reduceLeDiff,Nat.reduceEqDiff,o7,o8]
   refine ae.ok (ht _) ?_
   by_cases h0:t=0
   case' pos=>simp -implicitDefEqProofs only[↓reduceIte,go_sem,Nat.reduceLT,Nat.reduceEqDiff,h0]
   case' neg=>
    by_cases hn:0<(z.cD:Int)
    case' pos=>simp -implicitDefEqProofs only[↓reduceIte,go_sem,ab,Nat.reduceAdd,Nat.reduceLT,Nat.reduceLeDiff,Nat.reduceEqDiff,reduceCtorEq,h0,hn]
    case' neg=>
     by_cases hk:z.mn.kind=av.kind
     case' pos=>
      simp -implicitDefEqProofs only[↓reduceIte,go_sem,ab,aq,Nat.reduceAdd,Nat.reduceLT,Nat.reduceLeDiff,Nat.reduceEqDiff,reduceCtorEq,h0,hn,eq_true hk]
      refine ae.ok (he _) ?_
     case' neg=>simp -implicitDefEqProofs only[↓reduceIte,go_sem,ab,Nat.reduceAdd,Nat.reduceLT,Nat.reduceLeDiff,Nat.reduceEqDiff,reduceCtorEq,h0,hn,eq_false hk]
 all_goals
  simp -implicitDefEqProofs only[↓reduceIte,go_sem,Nat.reduceLT]
  refine an.ret ?_
  simp -implicitDefEqProofs only[↓reduceIte,go_sem,Nat.reduceLT]<;>(try simp only[o7,o8,if_false])<;>simp_all
theorem Ax(z:Zn)(a:Atom)(hz:z.rows≤1000000000)(H:aa):ag Tryz.prog 99 [z.av,a.av] H (.ok (iA (jG z a))) H:=by
 have h1:=fun H=>mN z a H
 have h2:=fun H=>wT z a H
 unfold jG
 generalize gm z a=b1 at*
 generalize kU z a=b2 at*
 have e1:IntKind.i64.wrap (IntKind.i64.wrap ((z.rows:Int).tdiv 2)+max ((z.rows:Int).tmod 2) 0)=((z.rows/2+z.rows%2:Nat):Int):=by
  rw[Int.tmod_eq_emod_of_nonneg (by omega),Int.tdiv_eq_ediv_of_nonneg (by omega),wrap64_in ((z.rows:Int)/2) (by omega) (by omega),wrap64_in _ (by omega) (by omega)];omega
 refine ag.ai (hint:=(fun _=>false)) Tryz.func99 (by kernel_rfl) rfl [4] (by kernel_rfl) (by decide) (by simp[Tryz.ntmps99]) ?_
 rw[Tryz.ntmps99]
 simp -implicitDefEqProofs only[↓reduceIte,go_sem,ab,Nat.reduceAdd,Nat.reduceLT,Nat.reduceEqDiff]
 refine ae.ok (h1 _) ?_
 cases b1
 case' false=>
  simp -implicitDefEqProofs only[↓reduceIte,go_sem,ab,Nat.reduceAdd,Nat.reduceLT,Nat.reduceEqDiff]
  refine ae.ok (h2 _) ?_
  cases b2
 all_goals
  simp -implicitDefEqProofs only[↓reduceIte,go_sem,ab,Nat.reduceAdd,Nat.reduceLT,Nat.reduceLeDiff,Nat.reduceEqDiff,Int.reduceEq]
  refine an.ret ?_
  simp -implicitDefEqProofs only[↓reduceIte,go_sem,Nat.reduceLT,reduceCtorEq,e1]<;>simp
def Zn.ds(z:Zn):List D:=[iD z.rows,iD z.cD,iD z.mn.kind,iD z.mn.i,.v (.string z.mn.s),iD z.mx.kind,iD z.mx.i,.v (.string z.mx.s)]
def bq:List (List Sg)→Nat
 |[]=>0
 |l::_=>l.length
def cQ(l:List Sg)(k:Nat):Zn:=(l.map (·.eZ)).getD k kz
def aL(S:List (List Sg))(at':Int):List Zn:=if at'<0∨(bq S:Int)≤at' then[]else S.map fun l=>cQ l at'.toNat
structure Pj.Ok (p:Pj):Prop where
 aC:p.aC.length≤1000000000
 len:p.bl.length≤1000000000
 many:bq p.bl≤1000000000
 same:∀l∈p.bl,l.length=bq p.bl
 small:∀l∈p.bl,∀s∈l,s.eZ.rows≤1000000000
theorem Pj.Ok.fh{p:Pj}(hp:p.Ok){n:Int}{z:Zn}(h:z∈aL p.bl n):z.rows≤1000000000:=by
 unfold aL at h
 split at h
 ·cases h
 ·obtain⟨l,hl,rfl⟩:=List.mem_map.1 h
  unfold cQ
  rw[List.getD_eq_getElem?_getD,List.getElem?_map]
  cases e:l[n.toNat]? with
  |none=>simp[kz]
  |some s=>exact hp.small l hl s (List.mem_of_getElem? e)
theorem uY(p:Pj)(hp:p.Ok)(c:Int)(H:aa):ag Tryz.prog 96 [p.av,iA c] H (.ok (iA (cS c p.aC))) H:=by
 refine ag.ai (hint:=(fun _=>false)) Tryz.func96 (by kernel_rfl) rfl [4] (by kernel_rfl) (by decide) (by simp[Tryz.ntmps96]) ?_
 rw[Tryz.ntmps96]
 simp -implicitDefEqProofs only[↓reduceIte,go_sem,ab,Nat.reduceAdd,Nat.reduceLT,Nat.reduceLeDiff,Nat.reduceEqDiff,Pj.av,Pj.ds]
 refine ae.ok (kh p.aC c false _ (by have:=hp.aC;omega)) ?_
 simp -implicitDefEqProofs only[↓reduceIte,go_sem,Nat.reduceLT]
 refine an.ret ?_
 simp -implicitDefEqProofs only[↓reduceIte,go_sem,Nat.reduceLT]
theorem m2{S:List (List Sg)}{k:Nat}(h:k<S.length):(bg S)[k]?=some [.list false (S[k].map Sg.ds)]:=by simp[bg,h]
theorem vF(p:Pj)(H:aa):ag Tryz.prog 94 [p.av] H (.ok (iA (bq p.bl))) H:=by
 obtain⟨cs,key,rows,S⟩:=p
 refine ag.ai (hint:=(fun _=>false)) Tryz.func94 (by kernel_rfl) rfl [2] (by kernel_rfl) (by decide) (by simp[Tryz.ntmps94]) ?_
 rw[Tryz.ntmps94]
 cases S with
 |nil=>
  simp -implicitDefEqProofs only[↓reduceIte,go_sem,ab,Nat.reduceAdd,Nat.reduceLT,Nat.reduceEqDiff,Pj.av,Pj.ds,bg]
  refine an.ret ?_
  simp -implicitDefEqProofs only[↓reduceIte,go_sem,Nat.reduceLT,bq]
 |cons l S=>
  simp -implicitDefEqProofs only[↓reduceIte,go_sem,ab,Nat.reduceAdd,Nat.reduceLT,Nat.reduceEqDiff,Int.reduceLE,Int.reduceToNat,Pj.av,Pj.ds,bg,show ¬((S.length:Int)+1=0) by omega]
  refine an.ret ?_
  simp -implicitDefEqProofs only[↓reduceIte,go_sem,Nat.reduceLT,bq]
theorem dV(l:List Zn):(l.map Zn.ds).length=l.length:=by simp
theorem pF(p:Pj)(hp:p.Ok)(n:Int)(hn:iJ n)(H:aa):ag Tryz.prog 46 [p.av,iA n] H (.ok (.d (.list false ((aL p.bl n).map Zn.ds)))) H:=by
 have hg:=fun H=>vF p H
 have hm:=hp.many
 have hl:=hp.len
 have hs:=hp.same
 unfold aL
 by_cases h:n<0∨(bq p.bl:Int)≤n
 ·rw[if_pos h]
  suffices hh:ag Tryz.prog 46 [p.av,iA n] H (.ok (.d (.v (.slice none 0 0)))) H from hh.FZ .nil
  obtain⟨cs,key,rows,S⟩:=p
  simp only at*
  generalize bq S=g at*
  refine ag.ai (hint:=(fun _=>false)) Tryz.func46 (by kernel_rfl) rfl [4] (by kernel_rfl) (by decide) (by simp[Tryz.ntmps46]) ?_
  rw[Tryz.ntmps46]
  by_cases h0:n<0
  case' pos=>simp -implicitDefEqProofs only[↓reduceIte,go_sem,Nat.reduceAdd,Nat.reduceLT,Nat.reduceEqDiff,Pj.av,Pj.ds,h0]
  case' neg=>
   simp -implicitDefEqProofs only[↓reduceIte,go_sem,ab,Nat.reduceAdd,Nat.reduceLT,Nat.reduceEqDiff,Pj.av,Pj.ds,h0]
   refine ae.ok (hg _) ?_
   simp -implicitDefEqProofs only[↓reduceIte,go_sem,Nat.reduceLT,Nat.reduceEqDiff,reduceCtorEq,show(g:Int)≤n by omega]
  all_goals
   refine an.ret ?_
   simp -implicitDefEqProofs only[↓reduceIte,go_sem,Nat.reduceLT]
 rw[if_neg h]
 obtain⟨k,rfl⟩:=Int.eq_ofNat_of_zero_le (show 0≤n by omega)
 obtain⟨cs,key,rows,S⟩:=p
 simp only at*
 generalize bq S=g at*
 refine ag.ai (hint:=(fun _=>false)) Tryz.func46 (by kernel_rfl) rfl [4] (by kernel_rfl) (by decide) (by simp[Tryz.ntmps46]) ?_
 rw[Tryz.ntmps46]
 simp -implicitDefEqProofs only[↓reduceIte,go_sem,ab,Nat.reduceAdd,Nat.reduceLT,Nat.reduceEqDiff,Pj.av,Pj.ds,show ¬(k:Int)<0 by omega]
 refine ae.ok (hg _) ?_
 simp -implicitDefEqProofs only[↓reduceIte,go_sem,ab,Nat.reduceAdd,Nat.reduceLT,Nat.reduceEqDiff,reduceCtorEq,show ¬(g:Int)≤k by omega,dj]
 refine aU (fun j s H'=>H'=H++[.box 36 4 0 1 [.d (.list false (ints cs)),.d (.list false (ints key)),iA rows,.d (.list false (bg S))],.arr 102 8 j (((S.take j).map fun l=>cQ l k).map Zn.ds)]∧s 1=iA k∧s 5= .sl (H.length+1) j 0 j∧s 17= .d (.list false (bg S))∧s 18=iA S.length∧s 19=iA j) S.length (by omega) (ak.eg _ _ 5 102 8 (by decide) (by simp -implicitDefEqProofs only[↓reduceIte,go_sem,Nat.reduceLT,Nat.reduceEqDiff]) _) ?_ ?_ ?_
 ·refine⟨?_,?_⟩
  ·simp -implicitDefEqProofs only[go_sem,List.take_zero]
  ·simp -implicitDefEqProofs only[↓reduceIte,go_sem,Nat.reduceLT,Nat.reduceEqDiff]
 ·rintro j s H' hj hw ⟨rfl,t1,t5,t17,t18,t19⟩
  have hx:=m2 hj
  have hlj:=hs S[j] (List.getElem_mem hj)
  have e1:((S.take (j+1)).map fun l=>cQ l k).map Zn.ds=((S.take j).map fun l=>cQ l k).map Zn.ds++[(cQ S[j] k).ds]:=by rw[List.take_succ_eq_append_getElem hj,List.map_append,List.map_append];rfl
  have e2:(((S.take j).map fun l=>cQ l k).map Zn.ds).length=j:=by simp;omega
  have hk:k<S[j].length:=by omega
  have hz:(S[j].map Sg.ds)[k]?=some S[j][k].ds:=by simp[hk]
  have hze:cQ S[j] k=S[j][k].eZ:=by simp[cQ,hk]
  rw[e1,hze]
  generalize ((S.take j).map fun l=>cQ l k).map Zn.ds=Z at*
  generalize S[j][k]=sg at*
  generalize S[j]=l at*
  obtain⟨sk,sw,⟨zr,zn,mn,mx⟩,ns,bd⟩:=sg
  simp -implicitDefEqProofs only[↓reduceIte,go_sem,Nat.reduceAdd,Nat.reduceLT,Nat.reduceLeDiff,Nat.reduceEqDiff,t1,t5,t17,t18,t19,hj,hx,hz,Sg.ds,iD,e2]
  refine⟨by omega,by omega,cl.same ⟨rfl,?_⟩⟩
  simp -implicitDefEqProofs only[↓reduceIte,go_sem,Nat.reduceLT,Nat.reduceEqDiff,t1,t17,t18,hw]
 ·rintro s H' ⟨rfl,t1,t5,t17,t18,t19⟩
  rw[List.take_length]at*
  simp -implicitDefEqProofs only[↓reduceIte,go_sem,Nat.reduceLT,Nat.reduceEqDiff,t18,t19,t5]
  refine an.ret ?_
  simp -implicitDefEqProofs only[↓reduceIte,go_sem,Nat.reduceLT,List.take_of_length_le (show((S.map fun l=>cQ l k).map Zn.ds).length≤S.length by simp)]
theorem qt{H:aa}{i:Nat}{o:ay}(h:H[i]?=some o)(T:aa):(H++T)[i]?=some o:=by rw[List.getElem?_append_left (aj h)];exact h
def iS(p:Pj)(Z:List Zn)(l:List Atom):Bool:=l.any fun a=>decide (0≤cS a.dN p.aC∧cS a.dN p.aC<Z.length)&&gm (Z.getD (cS a.dN p.aC).toNat kz) a
theorem vZ(p:Pj)(hp:p.Ok)(Z:List Zn)(hZ:Z.length≤1000000000)(a:Atom)(i j:Nat)(H:aa)(hi:H[i]?=some (.box 36 4 0 1 (p.ds.map .d)))(hj:H[j]?=some (.box 96 1 0 1 [.d (.list false (Z.map Zn.ds))])):
  ag Tryz.prog 95 [a.av,.ptr i 0 0 0,.ptr j 0 0 0] H (.ok (bA (decide (0≤cS a.dN p.aC∧cS a.dN p.aC<Z.length)&&gm (Z.getD (cS a.dN p.aC).toNat kz) a))) H:=by
 have hpl:=fun H=>uY p hp a.dN H
 have hc:=hp.aC
 have hi2:=fun T=>qt hi T
 have hj2:=fun T=>qt hj T
 have hle:cS a.dN p.aC<p.aC.length:=by
  unfold cS
  split
  ·rename_i h;have:=List.idxOf_lt_length_of_mem h;omega
  ·omega
 generalize cS a.dN p.aC=x at*
 refine ag.ai (hint:=(fun _=>false)) Tryz.func95 (by kernel_rfl) rfl [4] (by kernel_rfl) (by decide) (by simp[Tryz.ntmps95]) ?_
 rw[Tryz.ntmps95]
 simp -implicitDefEqProofs only[↓reduceIte,go_sem,ab,Nat.reduceAdd,Nat.reduceLT,Nat.reduceLeDiff,Nat.reduceEqDiff,hi2,Pj.ds]
 refine ae.ok (hpl _) ?_
 simp -implicitDefEqProofs only[↓reduceIte,go_sem,Nat.reduceLT]
 refine aF K.mixed (by kernel_rfl) ?_
 by_cases h0:x<0
 ·simp -implicitDefEqProofs only[↓reduceIte,go_sem,Nat.reduceLT,Nat.reduceEqDiff,reduceCtorEq,show ¬(0:Int)≤x by omega]
  refine an.ret ?_
  simp -implicitDefEqProofs only[↓reduceIte,go_sem,Nat.reduceLT,show ¬(0:Int)≤x by omega,false_and,Bool.false_and,decide_false]
 obtain⟨k,rfl⟩:=Int.eq_ofNat_of_zero_le (show 0≤x by omega)
 by_cases hk:k<Z.length
 ·have hz:(Z.map Zn.ds)[k]?=some Z[k].ds:=by simp[hk]
  have hzd:Z.getD k kz=Z[k]:=by simp[hk]
  have hno:=fun H=>mN Z[k] a H
  simp only[Int.toNat_natCast]
  rw[hzd]
  generalize Z[k]=z at*
  simp -implicitDefEqProofs only[↓reduceIte,go_sem,ab,Nat.reduceAdd,Nat.reduceLT,Nat.reduceEqDiff,hj2,hk,hz,Zn.ds,iD,dV]
  refine ae.ok (hno _) ?_
  simp -implicitDefEqProofs only[↓reduceIte,go_sem,Nat.reduceLT,Nat.reduceEqDiff]
  refine an.ret ?_
  simp -implicitDefEqProofs only[↓reduceIte,go_sem,Nat.reduceLT,hk,true_and,decide_true,Bool.true_and]
 ·simp -implicitDefEqProofs only[↓reduceIte,go_sem,ab,Nat.reduceLT,Nat.reduceEqDiff,reduceCtorEq,hj2,hk,dV]
  refine an.ret ?_
  simp -implicitDefEqProofs only[↓reduceIte,go_sem,Nat.reduceLT,hk,and_false,decide_false,Bool.false_and]
theorem ye(p:Pj)(hp:p.Ok)(l:List Atom)(n1:Bool)(hl:l.length≤1000000000)(n:Int)(hn:iJ n)(H:aa):ag Tryz.prog 47 [p.av,.d (.list n1 (l.map Atom.enc)),iA n] H (.ok (bA (iS p (aL p.bl n) l))) H:=by
 have hg:=fun H=>pF p hp n hn H
 have hZ:(aL p.bl n).length≤1000000000:=by unfold aL;split;simp;simp;exact hp.len
 generalize aL p.bl n=Z at*
 refine ag.ai (hint:=(fun _=>false)) Tryz.func47 (by kernel_rfl) rfl [6] (by kernel_rfl) (by decide) (by simp[Tryz.ntmps47]) ?_
 rw[Tryz.ntmps47]
 simp -implicitDefEqProofs only[↓reduceIte,go_sem,ab,Nat.reduceAdd,Nat.reduceLT,Nat.reduceEqDiff,Pj.av,Pj.ds]
 refine ae.ok (hg _) ?_
 simp -implicitDefEqProofs only[↓reduceIte,go_sem,aq,Nat.reduceLT,Nat.reduceEqDiff]
 refine ae.ok (fO l _ _ _ n1 _ (by omega) fun a _=>vZ p hp Z hZ a _ _ _ (by simp[Pj.ds]) (by simp)) ?_
 simp -implicitDefEqProofs only[↓reduceIte,go_sem,Nat.reduceLT]
 refine an.ret ?_
 simp -implicitDefEqProofs only[↓reduceIte,go_sem,Nat.reduceLT,iS]
theorem qJ(z:Zn)(v:al):(aT z v).rows=z.rows:=by
 unfold aT
 split
 ·rfl
 ·unfold ir;split<;>(unfold gH;split<;>(unfold gk;split<;>rfl))
theorem wS(l:List al):(oF l).rows=l.length:=by
 have:∀(m:List al) (z:Zn),(m.foldl aT z).rows=z.rows:=by
  intro m
  induction m with
  |nil=>exact fun z=>rfl
  |cons v m ih=>exact fun z=>(ih _).trans (qJ z v)
 exact this l _
theorem pv{l:List al}{k w:Int}(h:(kJ l k w).2=0):(kJ l k w).1.eZ=oF l:=by
 unfold kJ at h⊢
 split
 ·rename_i h1;rw[if_pos h1]at h;exact absurd h h1
 ·rename_i h1
  rw[if_neg h1]at h
  split
  ·rename_i h2;rw[if_pos h2]at h;cases h
  ·rename_i h2
   rw[if_neg h2]at h
   split
   ·rename_i h3;rw[if_pos h3]at h;exact absurd h h3
   ·rfl
theorem uX{l:List Int}(h:lG l=0):∀x∈l,x=0:=by
 intro x hx
 unfold lG at h
 cases e:l.find? fun e=>decide (e≠0)with
 |none=>have:=List.find?_eq_none.1 e x hx;simpa using this
 |some y=>
  rw[e]at h
  have:=List.find?_some e
  simp at this h
  exact absurd h this
structure mF (R:List (List al)) (ks cs key:List Int) (w:Int) (p:Pj):Prop where
 check:dm R ks=0
 J8:¬uy ks cs key
 pieces:∀c∈cs,∀x∈bk (oG R key) ks w c,x.2=0
 eq:p=⟨cs,key,R.length,fe (oG R key) ks cs w⟩
theorem iP{R:List (List al)}{ks cs key:List Int}{w:Int}(h:(gG R ks cs key w).2=0):mF R ks cs key w (gG R ks cs key w).1:=by
 unfold gG at h⊢
 split
 ·rename_i h1;rw[if_pos h1]at h;exact absurd h h1
 ·rename_i h1
  rw[if_neg h1]at h
  split
  ·rename_i h2;rw[if_pos h2]at h;cases h
  ·rename_i h2
   rw[if_neg h2]at h
   split
   ·rename_i h3;rw[if_pos h3]at h;exact absurd h h3
   ·rename_i h3
    refine⟨by simpa using h1,h2,fun c hc x hx=>?_,rfl⟩
    exact uX (Classical.not_not.1 h3) _ (List.mem_flatMap.2 ⟨c,hc,List.mem_map.2 ⟨x,hx,rfl⟩⟩)
theorem y4(R:List (List al))(key:List Int):(oG R key).length=R.length:=St.aW _
theorem D7(R:List (List al))(k:Nat):(zu R k).length=min 256 (R.length-256* k):=by simp[zu]
theorem wL(Q:List (List al))(ks:List Int)(w c:Int):(bk Q ks w c).length=zC Q.length:=by simp[bk,qC]
theorem mF.JX{R:List (List al)}{ks cs key:List Int}{w:Int}{p:Pj}(h:mF R ks cs key w p){l:List Sg}(hl:l∈p.bl):l.length=zC R.length∧∀(k:Nat) (hk:k<l.length),l[k].eZ.rows=min 256 (R.length-256* k):=by
 rw[h.eq]at hl
 obtain⟨c,hc,rfl⟩:=List.mem_map.1 hl
 have h1:=h.pieces c hc
 refine⟨by rw[List.length_map,wL,y4],fun k hk=>?_⟩
 rw[List.length_map]at hk
 have h2:=h1 _ (List.getElem_mem hk)
 rw[List.getElem_map]
 have hk2:k<(qC (oG R key)).length:=by simpa[bk]using hk
 have e:(bk (oG R key) ks w c)[k]=kJ (jz c (zu (oG R key) k)) (ks.getD c.toNat 0) w:=by simp[bk,qC]
 rw[e]at h2⊢
 rw[pv h2,wS]
 simp[jz,D7,y4]
theorem mF.many{R:List (List al)}{ks cs key:List Int}{w:Int}{p:Pj}(h:mF R ks cs key w p):bq p.bl=zC R.length:=by
 have h2:p.bl.length=cs.length:=by rw[h.eq];simp[fe]
 have h3:cs.length≠0:=fun e=>h.J8 (.inl e)
 cases e:p.bl with
 |nil=>rw[e]at h2;simp at h2;omega
 |cons l S=>exact(h.JX (l:=l) (by rw[e];simp)).1
theorem mF.ok{R:List (List al)}{ks cs key:List Int}{w:Int}{p:Pj}(h:mF R ks cs key w p)(hc:cs.length≤1000000000):p.Ok:=by
 have hR:=(mo h.check).2.2.2.1
 refine⟨by rw[h.eq];exact hc,by rw[h.eq];simpa[fe]using hc,by rw[h.many];unfold zC;omega,fun l hl=>by rw[h.many];exact(h.JX hl).1,fun l hl s hs=>?_⟩
 obtain⟨k,hk,rfl⟩:=List.mem_iff_getElem.1 hs
 rw[(h.JX hl).2 k hk]
 omega
def gL(l:List Int):List (Int×AV):=l.map fun k=>(k,.d (.v (.bool true)))
theorem pg(n:Int):∀(l:List Int) (i:Nat),n∈l→∃j,fz n (gL l) i=some (j,.d (.v (.bool true)))
 |[],_,h=>by simp at h
 |m::l,i,h=>by
  simp only[gL,List.map_cons,fz]
  by_cases e:n=m
  ·exact⟨i,by simp[e]⟩
  ·simp only[if_neg e]
   exact pg n l (i+1) (by simpa[e]using h)
theorem iZ(n:Int):∀(l:List Int) (i:Nat),n∉l→fz n (gL l) i=none
 |[],_,_=>rfl
 |m::l,i,h=>by
  simp only[List.mem_cons,not_or]at h
  simp only[gL,List.map_cons,fz,if_neg h.1]
  exact iZ n l (i+1) h.2
theorem xy{n:Int}{l:List Int}(h:n∈l):ed n (gL l)=some (.d (.v (.bool true))):=by
 obtain⟨j,hj⟩:=pg n l 0 h
 simp[ed,hj]
theorem sx{n:Int}{l:List Int}(h:n∉l):ed n (gL l)=none:=by simp[ed,iZ n l 0 h]
theorem ta{n:Int}{l:List Int}(h:n∉l):j6 n (.d (.v (.bool true))) (gL l)=gL (l++[n]):=by
 unfold j6
 rw[iZ n l 0 h]
 simp[gL]
def tell(out:List Int)(c:Int):List Int:=if c∈out then out else out++[c]
def eC(H:aa)(q:ay)(l:List Int)(ver:Nat)(T:aa):aa:=H++q:: .mp .i64 (gL l):: .box 115 1 0 1 [.mp (H.length+1)]:: .box 23 1 0 1 [.sl (H.length+4) ver 0 l.length]:: .arr 3 1 ver (ints l)::T
theorem jh(n:Int)(l:List Int)(hl:l.length≤1000000)(H:aa)(q:ay)(ver:Nat)(T:aa):
  ∃ver',ag Tryz.prog 55 [iA n,.ptr (H.length+2) 0 0 0,.ptr (H.length+3) 0 0 0] (eC H q l ver T) (.ok (.a7 [])) (eC H q (tell l n) ver' T):=by
 by_cases hn:n∈l
 ·refine⟨ver,?_⟩
  refine ag.ai (hint:=(fun _=>false)) Tryz.func55 (by kernel_rfl) rfl [] (by kernel_rfl) (by decide) (by simp[Tryz.ntmps55]) ?_
  rw[Tryz.ntmps55]
  simp -implicitDefEqProofs only[↓reduceIte,go_sem,ab,Nat.reduceLT,Nat.reduceEqDiff,reduceCtorEq,eC,xy hn,tell,hn]
  exact⟨_,ak.refl _ _,rfl⟩
 ·refine⟨ver+1,?_⟩
  refine ag.ai (hint:=(fun _=>false)) Tryz.func55 (by kernel_rfl) rfl [] (by kernel_rfl) (by decide) (by simp[Tryz.ntmps55]) ?_
  rw[Tryz.ntmps55]
  simp -implicitDefEqProofs only[↓reduceIte,go_sem,ab,aq,Nat.reduceLT,Nat.reduceLeDiff,Nat.reduceEqDiff,reduceCtorEq,eC,sx hn,tell,hn]
  simp -implicitDefEqProofs only[go_sem,ta hn,ao,c8]
  exact⟨by omega,by omega,_,ak.refl _ _,rfl⟩
def gR(a:Int×Int):List D:=[.v (.int .i64 a.1),.v (.int .i64 a.2)]
def ig(j:Int×D×D×D):List D:=[.v (.int .i64 j.1),j.2.1,j.2.2.1,j.2.2.2]
def fN(o:List Int)(a:Int×Int):List Int:=if a.1=1 then o else tell o a.2
def nz(o:List Int)(j:Int×D×D×D):List Int:=tell o j.1
def qK(aC:List Int)(bF:List (Int×Int))(aE:List (Int×D×D×D)):List Int:=aE.foldl nz (bF.foldl fN (aC.foldl tell []))
theorem dO{α:Type}(f:List Int→α→List Int)(hf:∀o x,(f o x).length≤o.length+1):∀(l:List α) (o:List Int),(l.foldl f o).length≤o.length+l.length
 |[],o=>by simp
 |x::l,o=>by
  have:=dO f hf l (f o x)
  have:=hf o x
  simp only[List.foldl_cons,List.length_cons];omega
theorem iM(o:List Int)(n:Int):(tell o n).length≤o.length+1:=by unfold tell;split<;>simp
theorem pK(o:List Int)(a:Int×Int):(fN o a).length≤o.length+1:=by unfold fN;split;omega;exact iM _ _
theorem ji{α β:Type}(f:β→α→β)(o:β)(l:List α)(k:Nat)(h:k<l.length):(l.take (k+1)).foldl f o=f ((l.take k).foldl f o) l[k]:=by
 rw[List.take_succ_eq_append_getElem h,List.foldl_append];rfl
theorem Aj(aC:List Int)(bF:List (Int×Int))(aE:List (Int×D×D×D))(x0 x1 x4 x6 x7:D)(n2 n3 n5:Bool)(hc:aC.length≤100000)(ha:bF.length≤100000)(hj:aE.length≤100000)(H:aa):
  ag Tryz.prog 16 [.agg [.d x0,.d x1,.d (.list n2 (aE.map ig)),.d (.list n3 (ints aC)),.d x4,.d (.list n5 (bF.map gR)),.d x6,.d x7]] H (.ok (.d (.list false (ints (qK aC bF aE))))) H:=by
 refine ag.ai (hint:=(fun _=>false)) Tryz.func16 (by kernel_rfl) rfl [2] (by kernel_rfl) (by decide) (by simp[Tryz.ntmps16]) ?_
 rw[Tryz.ntmps16]
 simp -implicitDefEqProofs only[↓reduceIte,go_sem,ab,aq,Nat.reduceAdd,Nat.reduceLT,Nat.reduceLeDiff,Nat.reduceEqDiff]
 have hq:∃q,q=ay.box 30 8 0 1 [.d x0,.d x1,.d (.list n2 (aE.map ig)),.d (.list n3 (ints aC)),.d x4,.d (.list n5 (bF.map gR)),.d x6,.d x7]:=⟨_,rfl⟩
 obtain⟨q,hq⟩:=hq
 have hb:∀m,q.below m=true:=by intro m;subst hq;simp -implicitDefEqProofs only[go_sem]
 rw[←hq]
 have hW:=fun s=>ak.df (H0:=H) s (H++[q,.mp .i64 [],.box 115 1 0 1 [.mp (H.length+1)],.box 23 1 0 1 [.d (.v (.slice none 0 0))]]) (H.length+3) 23 1 0 1 [.d (.v (.slice none 0 0))] 0 (.d (.v (.slice none 0 0))) 3 1 (by decide) (by simp[]) rfl rfl
 refine aU (fun k s H'=>∃ver,H'=eC H q ((aC.take k).foldl tell []) ver []∧s 1= .ptr H.length 0 0 0∧s 5= .fn 55 [.ptr (H.length+2) 0 0 0,.ptr (H.length+3) 0 0 0]∧s 15= .d (.list n3 (ints aC))∧s 16=iA aC.length∧s 17=iA k∧s 4= .ptr (H.length+3) 0 0 0) aC.length (by omega) (hW _) ?_ ?_ ?_
 ·refine⟨0,?_⟩
  simp -implicitDefEqProofs only[↓reduceIte,go_sem,Nat.reduceAdd,Nat.reduceLT,Nat.reduceEqDiff,eC,gL,jQ,ao]
 ·rintro k s H' hk hw ⟨ver,rfl,h1,h5,h15,h16,h17,h4⟩
  simp -implicitDefEqProofs only[↓reduceIte,go_sem,Nat.reduceLT,Nat.reduceEqDiff,h5,h15,h16,h17,hk,bD aC k hk]
  have hl:=dO tell iM (aC.take k) []
  have hl2:=List.length_take_le k aC
  obtain⟨ver',hd⟩:=jh aC[k] ((aC.take k).foldl tell []) (by simp at hl;omega) H q ver []
  refine ae.ok hd ?_
  simp -implicitDefEqProofs only[↓reduceIte,go_sem,Nat.reduceLT,Nat.reduceEqDiff,h17]
  refine cl.same ⟨ver',?_⟩
  simp -implicitDefEqProofs only[↓reduceIte,go_sem,Nat.reduceLT,Nat.reduceEqDiff,eC,h1,h5,h15,h16,h4,ji tell [] aC k hk,hw]
 ·rintro s H' ⟨ver,rfl,h1,h5,h15,h16,h17,h4⟩
  generalize hl1:(aC.take aC.length).foldl tell []=l1
  have hn1:=dO tell iM (aC.take aC.length) []
  rw[hl1]at hn1
  simp -implicitDefEqProofs only[↓reduceIte,go_sem,ab,Nat.reduceAdd,Nat.reduceLT,Nat.reduceLeDiff,Nat.reduceEqDiff,h1,h16,h17,eC,hq]
  rw[←hq]
  clear h15 h16 h17
  refine aU (fun k s H'=>∃ver,H'=eC H q ((bF.take k).foldl fN l1) ver []∧s 1= .ptr H.length 0 0 0∧s 5= .fn 55 [.ptr (H.length+2) 0 0 0,.ptr (H.length+3) 0 0 0]∧s 26= .d (.list n5 (bF.map gR))∧s 27=iA bF.length∧s 28=iA k∧s 4= .ptr (H.length+3) 0 0 0) bF.length (by omega) (ak.refl _ _) ?_ ?_ ?_
  ·refine⟨ver,?_⟩
   simp -implicitDefEqProofs only[↓reduceIte,go_sem,Nat.reduceLT,Nat.reduceEqDiff,eC,h1,h5,h4,List.foldl_nil]
  ·rintro k s H' hk hw ⟨ver,rfl,h1,h5,h15,h16,h17,h4⟩
   have hx:=List.getElem?_eq_getElem hk
   have hl:=dO fN pK (bF.take k) l1
   have hl2:=List.length_take_le k bF
   have hsn:=ji fN l1 bF k hk
   generalize bF[k]=x at hx hsn
   simp -implicitDefEqProofs only[↓reduceIte,go_sem,ab,aq,Nat.reduceAdd,Nat.reduceLT,Nat.reduceLeDiff,Nat.reduceEqDiff,h15,h16,h17,hk,hx,gR,eC]
   by_cases hop:x.1=1
   ·refine cO (by simp -implicitDefEqProofs only[go_sem,hop]) ?_
    simp -implicitDefEqProofs only[↓reduceIte,go_sem,Nat.reduceLT,Nat.reduceEqDiff,h17]
    refine cl.cut [_,_,_,_,_] _ 5 rfl rfl (by simp -implicitDefEqProofs only[go_sem,Nat.reduceLT,hb,gL];simp[mf]) ⟨ver,?_⟩
    simp -implicitDefEqProofs only[↓reduceIte,go_sem,Nat.reduceLT,Nat.reduceEqDiff,eC,h1,h5,h15,h16,h4,hsn,fN,hop,hw]
   ·refine cT (by simp -implicitDefEqProofs only[go_sem,hop]) ?_
    simp -implicitDefEqProofs only[↓reduceIte,go_sem,ab,Nat.reduceAdd,Nat.reduceLT,Nat.reduceEqDiff,h5]
    obtain⟨ver',hd⟩:=jh x.2 ((bF.take k).foldl fN l1) (by simp at hl hn1;omega) H q ver [.box 118 2 0 1 [iA x.1,iA x.2]]
    refine ae.ok hd ?_
    simp -implicitDefEqProofs only[↓reduceIte,go_sem,Nat.reduceLT,Nat.reduceEqDiff,h17,eC]
    refine cl.cut [_,_,_,_,_] _ 5 rfl rfl (by simp -implicitDefEqProofs only[go_sem,Nat.reduceLT,hb,gL];simp[mf]) ⟨ver',?_⟩
    simp -implicitDefEqProofs only[↓reduceIte,go_sem,Nat.reduceLT,Nat.reduceEqDiff,h1,h5,h15,h16,h4,hsn,fN,hop,hw]
  ·rintro s H' ⟨ver,rfl,h1,h5,h15,h16,h17,h4⟩
   generalize hl2:(bF.take bF.length).foldl fN l1=l2
   have hn2:=dO fN pK (bF.take bF.length) l1
   rw[hl2]at hn2
   simp -implicitDefEqProofs only[↓reduceIte,go_sem,ab,Nat.reduceAdd,Nat.reduceLT,Nat.reduceLeDiff,Nat.reduceEqDiff,h1,h16,h17,eC,hq]
   rw[←hq]
   clear h15 h16 h17
   refine aU (fun k s H'=>∃ver,H'=eC H q ((aE.take k).foldl nz l2) ver []∧s 1= .ptr H.length 0 0 0∧s 5= .fn 55 [.ptr (H.length+2) 0 0 0,.ptr (H.length+3) 0 0 0]∧s 41= .d (.list n2 (aE.map ig))∧s 42=iA aE.length∧s 43=iA k∧s 4= .ptr (H.length+3) 0 0 0) aE.length (by omega) (ak.refl _ _) ?_ ?_ ?_
   ·refine⟨ver,?_⟩
    simp -implicitDefEqProofs only[↓reduceIte,go_sem,Nat.reduceLT,Nat.reduceEqDiff,eC,h1,h5,h4,List.foldl_nil]
   ·rintro k s H' hk hw ⟨ver,rfl,h1,h5,h15,h16,h17,h4⟩
    have hx:=List.getElem?_eq_getElem hk
    have hl:=dO nz (fun o j=>iM o _) (aE.take k) l2
    have hl2:=List.length_take_le k aE
    have hsn:=ji nz l2 aE k hk
    generalize aE[k]=x at hx hsn
    simp -implicitDefEqProofs only[↓reduceIte,go_sem,ab,aq,Nat.reduceAdd,Nat.reduceLT,Nat.reduceLeDiff,Nat.reduceEqDiff,h5,h15,h16,h17,hk,hx,ig,eC]
    obtain⟨ver',hd⟩:=jh x.1 ((aE.take k).foldl nz l2) (by simp at hl hn1 hn2;omega) H q ver [.box 120 4 0 1 [iA x.1,.d x.2.1,.d x.2.2.1,.d x.2.2.2]]
    refine ae.ok hd ?_
    simp -implicitDefEqProofs only[↓reduceIte,go_sem,Nat.reduceLT,Nat.reduceEqDiff,h17,eC]
    refine cl.cut [_,_,_,_,_] _ 5 rfl rfl (by simp -implicitDefEqProofs only[go_sem,Nat.reduceLT,hb,gL];simp[mf]) ⟨ver',?_⟩
    simp -implicitDefEqProofs only[↓reduceIte,go_sem,Nat.reduceLT,Nat.reduceEqDiff,h1,h5,h15,h16,h4,hsn,nz,hw]
   ·rintro s H' ⟨ver,rfl,h1,h5,h15,h16,h17,h4⟩
    simp -implicitDefEqProofs only[↓reduceIte,go_sem,ab,Nat.reduceLT,Nat.reduceEqDiff,h16,h17,h4,eC]
    refine an.ret ?_
    simp -implicitDefEqProofs only[↓reduceIte,go_sem,Nat.reduceLT]
    rw[←hl2,←hl1]
    simp[qK,b8,ao]
def dA(l:List Atom)(o:List Int):List Atom:=o.filterMap fun i=>if 0≤i then l[i.toNat]? else none
theorem nJ(l:List Atom)(o:List Int)(k:Nat)(h:k<o.length):dA l (o.take (k+1))=dA l (o.take k)++(if 0≤o[k]then(l[(o[k]).toNat]?).toList else[]):=by
 unfold dA
 rw[List.take_succ_eq_append_getElem h,List.filterMap_append]
 congr 1
 by_cases h0:0≤o[k]
 ·cases hg:l[(o[k]).toNat]?<;>simp[h0,hg]
 ·simp[h0]
theorem kr(l:List Atom)(o:List Int):(dA l o).length≤o.length:=List.length_filterMap_le _ _
theorem uJ(l:List Atom)(o:List Int)(n1 n2:Bool)(H:aa)(hl:l.length≤1000000)(ho:o.length≤1000000):
  ag Tryz.prog 19 [.d (.list n1 (l.map Atom.enc)),.d (.list n2 (ints o))] H (.ok (.d (.list false ((dA l o).map Atom.enc)))) H:=by
 refine ag.ai (hint:=(fun _=>false)) Tryz.func19 (by kernel_rfl) rfl [4] (by kernel_rfl) (by decide) (by simp[Tryz.ntmps19]) ?_
 rw[Tryz.ntmps19]
 simp -implicitDefEqProofs only[↓reduceIte,go_sem,Nat.reduceLT,Nat.reduceEqDiff]
 refine aU (fun k s H'=>∃ver,H'=H++[.arr 123 5 ver ((dA l (o.take k)).map Atom.enc)]∧s 0= .d (.list n1 (l.map Atom.enc))∧s 5= .sl H.length ver 0 (dA l (o.take k)).length∧
  s 8= .d (.list n2 (ints o))∧s 9=iA o.length∧s 10=iA k) o.length (by omega) (ak.eg _ _ 5 123 5 (by decide) (by simp -implicitDefEqProofs only[↓reduceIte,go_sem,Nat.reduceLT,Nat.reduceEqDiff]) _) ?_ ?_ ?_
 ·exact⟨0,by simp[dA],by simp -implicitDefEqProofs only[↓reduceIte,go_sem,reduceCtorEq],by simp[dA],by simp -implicitDefEqProofs only[↓reduceIte,go_sem,Nat.reduceLT,Nat.reduceEqDiff],by simp -implicitDefEqProofs only[↓reduceIte,go_sem,Nat.reduceLT,Nat.reduceEqDiff,ao],by simp -implicitDefEqProofs only[↓reduceIte,go_sem,Nat.reduceLT,Nat.reduceEqDiff]⟩
 ·rintro k s H' hk hw ⟨ver,rfl,h0,h5,h8,h9,h10⟩
  have hle:=kr l (o.take k)
  have hk2:=List.length_take_le k o
  have hsn:=nJ l o k hk
  have hget:=bD o k hk
  generalize o[k]=x at hget hsn
  simp -implicitDefEqProofs only[↓reduceIte,go_sem,Nat.reduceLT,Nat.reduceEqDiff,h8,h9,h10,hk,hget]
  by_cases hx0:0≤x
  ·by_cases hxl:x<l.length
   ·obtain⟨y,hy⟩:∃y,l[x.toNat]?=some y:=⟨l[x.toNat]'(by omega),by simp[show x.toNat<l.length by omega]⟩
    simp -implicitDefEqProofs only[↓reduceIte,go_sem,Nat.reduceLT,Nat.reduceEqDiff,reduceCtorEq,h0,h5,hx0,hxl,decide_true]
    simp -implicitDefEqProofs only[↓reduceIte,go_sem,Nat.reduceAdd,Nat.reduceLT,Nat.reduceLeDiff,Nat.reduceEqDiff,h10,hx0,hy,Atom.enc]
    refine⟨by omega,by omega,cl.same ⟨ver+1,?_⟩⟩
    simp -implicitDefEqProofs only[↓reduceIte,go_sem,Nat.reduceLT,Nat.reduceEqDiff,reduceCtorEq,h0,h8,h9,hsn,hx0,hy,hw,Option.toList_some,List.map_append,List.length_append,Atom.enc]
   ·simp -implicitDefEqProofs only[↓reduceIte,go_sem,Nat.reduceLT,Nat.reduceEqDiff,reduceCtorEq,h0,h10,hx0,hxl]
    have hn:l[x.toNat]?=none:=List.getElem?_eq_none (by omega)
    refine cl.same ⟨ver,?_⟩
    simp -implicitDefEqProofs only[↓reduceIte,go_sem,Nat.reduceLT,Nat.reduceEqDiff,reduceCtorEq,h0,h5,h8,h9,hsn,hx0,hn,hw,Option.toList_none,List.append_nil]
  ·simp -implicitDefEqProofs only[↓reduceIte,go_sem,Nat.reduceLT,Nat.reduceEqDiff,reduceCtorEq,h10,hx0]
   refine cl.same ⟨ver,?_⟩
   simp -implicitDefEqProofs only[↓reduceIte,go_sem,Nat.reduceLT,Nat.reduceEqDiff,reduceCtorEq,h0,h5,h8,h9,hsn,hx0,hw,List.append_nil]
 ·rintro s H' ⟨ver,rfl,h0,h5,h8,h9,h10⟩
  simp -implicitDefEqProofs only[↓reduceIte,go_sem,Nat.reduceLT,Nat.reduceEqDiff,h9,h10,h5]
  refine an.ret ?_
  simp -implicitDefEqProofs only[↓reduceIte,go_sem,Nat.reduceLT]
  simp[b8]
def ct(a b:Nat):Nat:=if a+b<18446744073709551616 then a+b else 18446744073709551615
def eL(a b:Nat):Nat:=if a* b<18446744073709551616 then a* b else 18446744073709551615
theorem xp(a b:Nat)(ha:a<18446744073709551616)(hb:b<18446744073709551616)(H:aa):
  ag Tryz.prog 92 [du a,du b,.d (.v (.int .u64 0))] H (.ok (.a7 [du ((a+b)%18446744073709551616),du ((a+b)/18446744073709551616)])) H:=by
 intro φ N w vals hR hA
 have hv:=p8.closed [.int .u64 (a:Int),.int .u64 (b:Int),.int .u64 0] hA
 subst hv
 refine .inr ⟨.tuple #[.int .u64 (((a+b)%18446744073709551616:Nat):Int),.int .u64 (((a+b)/18446744073709551616:Nat):Int)],w,?_,φ,N,hR,au.refl,?_⟩
 ·rw[run_callFunc_extern (e:=add64Entry) Tryz.func92 (by kernel_rfl) (by kernel_rfl) (by kernel_rfl) (by kernel_rfl),run_add64 a b 0 (by omega) (by omega) (by omega) (by omega)]
  simp only[Result.andThen]
  congr 5<;>omega
 ·refine .a7 _ _ rfl fun i h1 h2=>?_
  match i,h1 with
  |0,_=>exact .d (.v _ rfl)
  |1,_=>exact .d (.v _ rfl)
theorem iy(a b:Nat)(ha:a<18446744073709551616)(hb:b<18446744073709551616)(H:aa):
  ag Tryz.prog 43 [du a,du b] H (.ok (du (ct a b))) H:=by
 refine ag.ai (hint:=(fun _=>false)) Tryz.func43 (by kernel_rfl) rfl [4] (by kernel_rfl) (by decide) (by simp[Tryz.ntmps43]) ?_
 rw[Tryz.ntmps43]
 simp -implicitDefEqProofs only[↓reduceIte,go_sem,Nat.reduceLT,Nat.reduceEqDiff,reduceCtorEq,du]
 refine ae.ok (xp a b ha hb H) ?_
 simp -implicitDefEqProofs only[↓reduceIte,go_sem,Nat.reduceLT,Nat.reduceEqDiff,du]
 by_cases h:a+b<18446744073709551616
 ·have h0:((a+b)/18446744073709551616)=0:=by omega
  refine cO (by simp -implicitDefEqProofs only[go_sem,h0]) ?_
  simp -implicitDefEqProofs only[↓reduceIte,go_sem,Nat.reduceLT,Nat.reduceEqDiff]
  refine an.aI ?_
  simp -implicitDefEqProofs only[↓reduceIte,go_sem,Nat.reduceLT,ct,du,if_pos h,Nat.mod_eq_of_lt h]
 ·have h0:((a+b)/18446744073709551616)=1:=by omega
  refine cT (by simp -implicitDefEqProofs only[go_sem,Int.reduceEq,h0]) ?_
  simp -implicitDefEqProofs only[go_sem]
  refine an.aI ?_
  simp -implicitDefEqProofs only[↓reduceIte,go_sem,Nat.reduceLT,ct,du,if_neg h]
  try rfl
theorem iz(a b:Nat)(ha:a<18446744073709551616)(hb:b<18446744073709551616)(H:aa):
  ag Tryz.prog 52 [du a,du b] H (.ok (du (ct a b))) H:=by
 refine ag.ai (hint:=(fun _=>false)) Tryz.func52 (by kernel_rfl) rfl [4] (by kernel_rfl) (by decide) (by simp[Tryz.ntmps52]) ?_
 rw[Tryz.ntmps52]
 have hw:=bz (18446744073709551615-(b:Int)) (by omega) (by omega)
 by_cases h:a+b<18446744073709551616
 ·simp -implicitDefEqProofs only[↓reduceIte,go_sem,Nat.reduceLT,Nat.reduceEqDiff,reduceCtorEq,du,hw,show ¬18446744073709551615-(b:Int)<(a:Int) by omega]
  refine an.aI ?_
  simp -implicitDefEqProofs only[↓reduceIte,go_sem,Nat.reduceLT,ct,du,if_pos h]
  rw[bz _ (by omega) (by omega)]
  try rfl
 ·simp -implicitDefEqProofs only[↓reduceIte,go_sem,Nat.reduceLT,Nat.reduceEqDiff,reduceCtorEq,du,hw,show 18446744073709551615-(b:Int)<(a:Int) by omega]
  refine an.aI ?_
  simp -implicitDefEqProofs only[↓reduceIte,go_sem,Nat.reduceLT,ct,du,if_neg h]
  try rfl
theorem Dq(a:Nat)(ha:a<18446744073709551616):IntKind.u64.wrap (CL .u64 (a:Int) 4294967295)=((a%4294967296:Nat):Int):=by
 have h:=bits_and_u64_nat a 4294967295 ha (by omega)
 have e:a&&&4294967295=a%4294967296:=Nat.and_two_pow_sub_one_eq_mod a 32
 rw[e]at h
 exact h
theorem KN(a:Nat):lE .u64 (a:Int) 32=((a/4294967296:Nat):Int):=by
 show(a:Int).fdiv (4294967296:Int)=_
 rw[Int.fdiv_eq_ediv_of_nonneg _ (by omega)]
 omega
theorem kG(a:Nat)(ha:a<18446744073709551616):IntKind.u64.wrap (a:Int)=(a:Int):=bz _ (by omega) (by omega)
theorem Hi(a:Nat):IntKind.u64.wrap (a:Int)=((a%18446744073709551616:Nat):Int):=by
 simp[IntKind.wrap,IntKind.signed,IntKind.bits]
theorem yI(x y:Nat)(hx:x<18446744073709551616)(hy:y<18446744073709551616)(H:aa):
  ag Tryz.prog 93 [du x,du y] H (.ok (.a7 [du (x* y/18446744073709551616),du (x* y%18446744073709551616)])) H:=by
 obtain⟨bd,bt,bw,hhi⟩:=Lib.mul64_hi x y hx hy
 have ba:=Lib.half_mul_le (a:=x/4294967296) (b:=y/4294967296) (by omega) (by omega)
 have bb:=Lib.half_mul_le (a:=x/4294967296) (b:=y%4294967296) (by omega) (by omega)
 have bc:=Lib.half_mul_le (a:=x%4294967296) (b:=y/4294967296) (by omega) (by omega)
 have ba':x/4294967296* (y/4294967296)<18446744073709551616:=by omega
 have bb':x/4294967296* (y%4294967296)<18446744073709551616:=by omega
 have bc':x%4294967296* (y/4294967296)<18446744073709551616:=by omega
 have bh1:x/4294967296* (y/4294967296)+(x/4294967296* (y%4294967296)+x%4294967296* (y%4294967296)/4294967296)/4294967296<18446744073709551616:=by omega
 have bh:x/4294967296* (y/4294967296)+(x/4294967296* (y%4294967296)+x%4294967296* (y%4294967296)/4294967296)/4294967296+((x/4294967296* (y%4294967296)+x%4294967296* (y%4294967296)/4294967296)%4294967296+x%4294967296* (y/4294967296))/4294967296<18446744073709551616:=by omega
 refine ag.ai (hint:=(fun _=>false)) Tryz.func93 (by kernel_rfl) rfl [4,5] (by kernel_rfl) (by decide) (by simp[Tryz.ntmps93]) ?_
 rw[Tryz.ntmps93]
 simp -implicitDefEqProofs only[↓reduceIte,go_sem,Nat.reduceLT,Nat.reduceEqDiff,Int.reduceLE,reduceCtorEq,du]
 refine an.aI ?_
 simp -implicitDefEqProofs only[↓reduceIte,go_sem,Nat.reduceLT,Nat.reduceEqDiff]
 simp only[Dq x hx,Dq y hy,KN,←Int.natCast_mul,←Int.natCast_add,kG _ bd,kG _ bb',kG _ bt,Dq _ bt,kG _ bc',kG _ bw,kG _ ba',kG _ bh1,Hi (x* y),hhi]
 rw[kG _ (by rw[←hhi];exact bh)]
theorem p0(a b:Nat)(ha:a<18446744073709551616)(hb:b<18446744073709551616)(H:aa):
  ag Tryz.prog 44 [du a,du b] H (.ok (du (eL a b))) H:=by
 refine ag.ai (hint:=(fun _=>false)) Tryz.func44 (by kernel_rfl) rfl [4] (by kernel_rfl) (by decide) (by simp[Tryz.ntmps44]) ?_
 rw[Tryz.ntmps44]
 simp -implicitDefEqProofs only[↓reduceIte,go_sem,Nat.reduceLT,Nat.reduceEqDiff,reduceCtorEq,du]
 refine ae.ok (yI a b ha hb H) ?_
 unfold eL
 have hab:a* b=a* b:=rfl
 generalize a* b=p at hab⊢
 simp -implicitDefEqProofs only[↓reduceIte,go_sem,Nat.reduceLT,Nat.reduceEqDiff,du]
 by_cases h:p<18446744073709551616
 ·have h0:(p/18446744073709551616)=0:=by omega
  refine cO (by simp -implicitDefEqProofs only[go_sem,h0]) ?_
  simp -implicitDefEqProofs only[↓reduceIte,go_sem,Nat.reduceLT,Nat.reduceEqDiff]
  refine an.aI ?_
  simp -implicitDefEqProofs only[↓reduceIte,go_sem,Nat.reduceLT,du,if_pos h,Nat.mod_eq_of_lt h]
 ·have h0:0<(p/18446744073709551616):=by omega
  refine cT (by congr 3;simp;omega) ?_
  simp -implicitDefEqProofs only[go_sem]
  refine an.aI ?_
  simp -implicitDefEqProofs only[↓reduceIte,go_sem,Nat.reduceLT,du,if_neg h]
  try rfl
theorem qW(a b:Nat)(ha:a<18446744073709551616)(hb:b<18446744073709551616)(H:aa):
  ag Tryz.prog 103 [du a,du b] H (.ok (du (eL a b))) H:=by
 refine ag.ai (hint:=(fun _=>false)) Tryz.func103 (by kernel_rfl) rfl [4] (by kernel_rfl) (by decide) (by simp[Tryz.ntmps103]) ?_
 rw[Tryz.ntmps103]
 by_cases hb0:b=0
 ·subst hb0
  have hne:(((0:Nat):Int) !=0)=false:=rfl
  simp -implicitDefEqProofs only[↓reduceIte,go_sem,Nat.reduceLT,Nat.reduceEqDiff,reduceCtorEq,du]
  refine an.aI ?_
  simp -implicitDefEqProofs only[↓reduceIte,go_sem,Nat.reduceLT,du,eL,Int.mul_zero,Nat.mul_zero,bz 0 (by omega) (by omega)]
 ·have hne:((b:Int) !=0)=true:=by simp;omega
  have hz:¬(b:Int)=0:=by omega
  have hq:IntKind.u64.wrap (Int.tdiv 18446744073709551615 (b:Int))=((18446744073709551615/b:Nat):Int):=by
   have:Int.tdiv 18446744073709551615 (b:Int)=((18446744073709551615/b:Nat):Int):=by
    rw[Int.tdiv_eq_ediv_of_nonneg (by omega)];rfl
   rw[this]
   have:=Nat.div_le_self 18446744073709551615 b
   exact kG _ (by omega)
  have hd:18446744073709551615/b<a↔18446744073709551615<a* b:=Nat.div_lt_iff_lt_mul (by omega)
  unfold eL
  generalize 18446744073709551615/b=q at hd hq⊢
  by_cases h:a* b<18446744073709551616
  ·have hl:¬q<a:=fun h'=>by have:=hd.1 h';omega
   simp -implicitDefEqProofs only[↓reduceIte,go_sem,Nat.reduceLT,Nat.reduceEqDiff,reduceCtorEq,du,hne,hz,hq,hl]
   refine an.aI ?_
   simp -implicitDefEqProofs only[↓reduceIte,go_sem,Nat.reduceLT,du,if_pos h,←Int.natCast_mul,kG _ h]
  ·have hl:q<a:=hd.2 (by omega)
   simp -implicitDefEqProofs only[↓reduceIte,go_sem,Nat.reduceLT,Nat.reduceEqDiff,reduceCtorEq,du,hne,hz,hq,hl]
   refine an.aI ?_
   simp -implicitDefEqProofs only[↓reduceIte,go_sem,Nat.reduceLT,du,if_neg h]
   try rfl
structure Qu where
 table:D
 pred:List Atom
 aE:List (Int×D×D×D)
 aC:List Int
 group:D
 bF:List (Int×Int)
 order:D
 ny:D
def Qu.ds(q:Qu):List D:=[q.table,.list false (q.pred.map Atom.enc),.list false (q.aE.map ig),.list false (ints q.aC),q.group,.list false (q.bF.map gR),q.order,q.ny]
def Qu.av(q:Qu):AV:= .agg (q.ds.map .d)
def Qu.bY(q:Qu):List Int:=qK q.aC q.bF q.aE
structure Qu.Ok (q:Qu):Prop where
 pred:q.pred.length≤100
 aE:q.aE.length≤100
 aC:q.aC.length≤100
 bF:q.bF.length≤100
structure Pl where
 proj:Int
 late:Bool
 order:List Int
 rep:Int
 range:Bool
deriving DecidableEq
def Pl.ds(p:Pl):List D:=[iD p.proj,.v (.bool p.late),.list false (ints p.order),iD p.rep,.v (.bool p.range)]
def Pl.av(p:Pl):AV:= .agg (p.ds.map .d)
theorem kX(q:Qu)(hq:q.Ok)(H:aa):ag Tryz.prog 16 [q.av] H (.ok (.d (.list false (ints q.bY)))) H:=
 Aj q.aC q.bF q.aE _ _ _ _ _ _ _ _ (by have:=hq.aC;omega) (by have:=hq.bF;omega) (by have:=hq.aE;omega) H
theorem Qu.jm(q:Qu)(hq:q.Ok):q.bY.length≤300:=by
 have h1:=dO tell iM q.aC []
 have h2:=dO fN pK q.bF (q.aC.foldl tell [])
 have h3:=dO nz (fun o j=>iM o _) q.aE (q.bF.foldl fN (q.aC.foldl tell []))
 have:=hq.aC;have:=hq.bF;have:=hq.aE
 unfold Qu.bY qK
 simp at h1
 omega
theorem uC(a:Atom)(c:Int)(i:Nat)(H:aa)(hi:H[i]?=some (.box 3 1 0 1 [iA c])):ag Tryz.prog 100 [a.av,.ptr i 0 0 0] H (.ok (bA (decide (a.dN=c)))) H:=by
 have hi2:=fun T=>qt hi T
 refine ag.ai (hint:=(fun _=>false)) Tryz.func100 (by kernel_rfl) rfl [3] (by kernel_rfl) (by decide) (by simp[Tryz.ntmps100]) ?_
 rw[Tryz.ntmps100]
 simp -implicitDefEqProofs only[↓reduceIte,go_sem,ab,Nat.reduceAdd,Nat.reduceLT,Nat.reduceLeDiff,Nat.reduceEqDiff,hi2]
 refine an.ret ?_
 simp -implicitDefEqProofs only[↓reduceIte,go_sem,Nat.reduceLT]
def asked(q:Qu)(c:Int):Bool:=(q.pred.any fun a=>decide (a.dN=c))||decide (c∈q.bY)
def fy(p:Pj)(q:Qu)(rows:Nat):Nat:=eL rows (p.aC.filter (asked q)).length
theorem xF(p:Pj)(hp:p.aC.length≤1000000000)(q:Qu)(hq:q.Ok)(rows:Nat)(hr:rows<18446744073709551616)(H:aa):ag Tryz.prog 49 [p.av,q.av,du rows] H (.ok (du (fy p q rows))) H:=by
 have hn:=fun H=>kX q hq H
 have hnl:=q.jm hq
 have hpl:=hq.pred
 unfold fy
 have hask:∀c,asked q c=((q.pred.any fun a=>decide (a.dN=c))||decide (c∈q.bY)):=fun c=>rfl
 generalize asked q=ask at*
 generalize q.bY=bY at*
 obtain⟨cs,key,prows,S⟩:=p
 obtain⟨q0,pred,aE,qcols,q4,bF,q6,q7⟩:=q
 simp only at*
 refine ag.ai (hint:=(fun _=>false)) Tryz.func49 (by kernel_rfl) rfl [6] (by kernel_rfl) (by decide) (by simp[Tryz.ntmps49]) ?_
 rw[Tryz.ntmps49]
 simp -implicitDefEqProofs only[↓reduceIte,go_sem,ab,Nat.reduceAdd,Nat.reduceLT,Nat.reduceEqDiff,Pj.av,Pj.ds,Qu.av,Qu.ds]
 refine ae.ok (hn _) ?_
 simp -implicitDefEqProofs only[↓reduceIte,go_sem,ab,Nat.reduceAdd,Nat.reduceLT,Nat.reduceLeDiff,Nat.reduceEqDiff,ao]
 obtain⟨qb,hqb⟩:∃qb,qb=ay.box 30 8 0 1 [.d q0,.d (.list false (pred.map Atom.enc)),.d (.list false (aE.map ig)),.d (.list false (ints qcols)),.d q4,.d (.list false (bF.map gR)),.d q6,.d q7]:=⟨_,rfl⟩
 have hb:∀m,qb.below m=true:=by intro m;subst hqb;simp -implicitDefEqProofs only[go_sem]
 obtain⟨pb,hpb⟩:∃pb,pb=ay.box 36 4 0 1 [.d (.list false (ints cs)),.d (.list false (ints key)),iA prows,.d (.list false (bg S))]:=⟨_,rfl⟩
 have hb2:∀m,pb.below m=true:=by intro m;subst hpb;simp -implicitDefEqProofs only[go_sem]
 rw[←hqb,←hpb]
 refine aU (fun k s H'=>H'=H++[pb,qb]∧s 2=du rows∧s 4= .ptr (H.length+1) 0 0 0∧s 7= .d (.list false (ints bY))∧s 8=du ((cs.take k).filter ask).length∧s 15= .d (.list false (ints cs))∧s 16=iA cs.length∧s 17=iA k) cs.length (by omega) (ak.refl _ _) ?_ ?_ ?_
 ·refine⟨rfl,?_⟩
  simp -implicitDefEqProofs only[↓reduceIte,go_sem,Nat.reduceLT,Nat.reduceEqDiff,List.take_zero,List.filter_nil]
  rfl
 ·rintro k s H' hk hw ⟨rfl,t2,t4,t7,t8,t15,t16,t17⟩
  have hx:=bD cs k hk
  have e1:((cs.take (k+1)).filter ask).length=((cs.take k).filter ask).length+if ask cs[k]=true then 1 else 0:=by
   rw[List.take_succ_eq_append_getElem hk,List.filter_append,List.length_append]
   cases h:ask cs[k]<;>simp[h]
  have hle:((cs.take k).filter ask).length≤k:=Nat.le_trans (List.length_filter_le _ _) (List.length_take_le _ _)
  have hac:=hask cs[k]
  rw[e1]
  generalize ((cs.take k).filter ask).length=m at*
  generalize cs[k]=c at*
  have hca:=fun G (hg:G[H.length+2]?=some (.box 3 1 0 1 [iA c]))=>fO pred (fun a=>decide (a.dN=c)) 100 [.ptr (H.length+2) 0 0 0] false G (by omega) fun a _=>uC a c _ _ hg
  simp -implicitDefEqProofs only[↓reduceIte,go_sem,ab,aq,Nat.reduceAdd,Nat.reduceLT,Nat.reduceEqDiff,t15,t16,t17,hk,hx,t4]
  rw[hqb]
  simp -implicitDefEqProofs only[↓reduceIte,go_sem,Nat.reduceAdd,Nat.reduceLT,Nat.reduceLeDiff,Nat.reduceEqDiff]
  refine ae.ok (hca _ (by simp)) ?_
  obtain⟨m1,hm1⟩:∃m1,m1=m+1:=⟨_,rfl⟩
  have hwm:IntKind.u64.wrap ((m:Int)+1)=(m1:Int):=by rw[bz _ (by omega) (by omega)];omega
  cases ha:pred.any fun a=>decide (a.dN=c)
  case' true=>
   rw[ha,Bool.true_or]at hac
   simp -implicitDefEqProofs only[↓reduceIte,go_sem,Nat.reduceLT,Nat.reduceEqDiff,t8,t17,hwm]
  case' false=>
   rw[ha,Bool.false_or]at hac
   simp -implicitDefEqProofs only[↓reduceIte,go_sem,ab,Nat.reduceLT,Nat.reduceEqDiff,t7]
   refine ae.ok (ez bY c false _ (by omega)) ?_
   by_cases h2:c∈bY
   case' pos=>
    rw[decide_eq_true h2]at hac
    simp -implicitDefEqProofs only[↓reduceIte,go_sem,Nat.reduceLT,Nat.reduceEqDiff,reduceCtorEq,eq_true h2,t8,t17,hwm]
   case' neg=>
    rw[decide_eq_false h2]at hac
    simp -implicitDefEqProofs only[↓reduceIte,go_sem,Nat.reduceLT,Nat.reduceEqDiff,reduceCtorEq,eq_false h2,t17]
  all_goals
   rw[←hqb]
   refine cl.cut [_,_] _ 2 rfl rfl (by simp -implicitDefEqProofs only[go_sem,hb,hb2]) ⟨rfl,?_⟩
   simp -implicitDefEqProofs only[↓reduceIte,go_sem,Nat.reduceLT,Nat.reduceEqDiff,reduceCtorEq,t2,t4,t7,t8,t15,t16,hw,hac,←hm1]
 ·rintro s H' ⟨rfl,t2,t4,t7,t8,t15,t16,t17⟩
  rw[List.take_length]at t8
  have hle:(cs.filter ask).length≤cs.length:=List.length_filter_le _ _
  simp -implicitDefEqProofs only[↓reduceIte,go_sem,Nat.reduceLT,Nat.reduceEqDiff,t16,t17,t2,t8]
  refine ae.ok (p0 rows _ hr (by omega) _) ?_
  simp -implicitDefEqProofs only[↓reduceIte,go_sem,Nat.reduceLT]
  refine an.ret ?_
  simp -implicitDefEqProofs only[↓reduceIte,go_sem,Nat.reduceLT]
def eo(p:Pj)(Z:List Zn)(x:Nat×Nat)(a:Atom):Nat×Nat:=
 if 0≤cS a.dN p.aC∧cS a.dN p.aC<Z.length then(ct x.1 x.2,min x.2 (jG (Z.getD (cS a.dN p.aC).toNat kz) a))else x
def kM(p:Pj)(Z:List Zn)(l:List Atom)(rows:Nat):Nat×Nat:=l.foldl (eo p Z) (0,rows)
def l9(p:Pj)(q:Qu)(l:List Atom)(Z:List Zn)(rows:Nat):Nat:=ct (kM p Z l rows).1 (eL (kM p Z l rows).2 q.bY.length)
theorem eS(a b:Nat):ct a b<18446744073709551616:=by unfold ct;split<;>omega
theorem mD(a b:Nat):eL a b<18446744073709551616:=by unfold eL;split<;>omega
theorem pV(p:Pj)(Z:List Zn)(rows:Nat)(hr:rows<18446744073709551616):∀(l:List Atom) (x:Nat×Nat),x.1<18446744073709551616→x.2<18446744073709551616→(l.foldl (eo p Z) x).1<18446744073709551616∧(l.foldl (eo p Z) x).2<18446744073709551616
 |[],x,h1,h2=>⟨h1,h2⟩
 |a::l,x,h1,h2=>by
  rw[List.foldl_cons]
  refine pV p Z rows hr l _ ?_ ?_
  ·unfold eo;split;exact eS _ _;exact h1
  ·unfold eo;split;(simp only;omega);exact h2
theorem uD(z:Zn)(a:Atom):jG z a≤z.rows:=by unfold jG;split;omega;split<;>omega
theorem sO(x:Int)(l:List Int):cS x l<l.length:=by
 unfold cS
 split
 ·rename_i h;have:=List.idxOf_lt_length_of_mem h;omega
 ·omega
theorem zT(p:Pj)(hp:p.aC.length≤1000000000)(q:Qu)(hq:q.Ok)(l:List Atom)(n1:Bool)(hl:l.length≤1000000000)(Z:List Zn)(hZ:∀z∈Z,z.rows≤1000000000)(hZl:Z.length≤1000000000)(rows:Nat)(hr:rows<18446744073709551616)(H:aa):
  ag Tryz.prog 48 [p.av,q.av,.d (.list n1 (l.map Atom.enc)),.d (.list false (Z.map Zn.ds)),du rows] H (.ok (du (l9 p q l Z rows))) H:=by
 have hn:=fun H=>kX q hq H
 have hnl:=q.jm hq
 unfold l9
 generalize q.bY=bY at*
 have hlt:=fun k=>pV p Z rows hr (l.take k) (0,rows) (by omega) hr
 have hstep:∀x a,eo p Z x a=if 0≤cS a.dN p.aC∧cS a.dN p.aC<Z.length then(ct x.1 x.2,min x.2 (jG (Z.getD (cS a.dN p.aC).toNat kz) a))else x:=fun x a=>rfl
 unfold kM
 generalize eo p Z=f at*
 obtain⟨cs,key,prows,S⟩:=p
 simp only at*
 have hqa:q.av= .agg [.d q.table,.d (.list false (q.pred.map Atom.enc)),.d (.list false (q.aE.map ig)),.d (.list false (ints q.aC)),.d q.group,.d (.list false (q.bF.map gR)),.d q.order,.d q.ny]:=rfl
 refine ag.ai (hint:=(fun _=>false)) Tryz.func48 (by kernel_rfl) rfl [10] (by kernel_rfl) (by decide) (by simp[Tryz.ntmps48]) ?_
 rw[Tryz.ntmps48]
 simp -implicitDefEqProofs only[↓reduceIte,go_sem,Nat.reduceAdd,Nat.reduceLT,Nat.reduceEqDiff,Pj.av,Pj.ds,hqa]
 obtain⟨qb,hqb⟩:∃qb,qb=ay.box 30 8 0 1 [.d q.table,.d (.list false (q.pred.map Atom.enc)),.d (.list false (q.aE.map ig)),.d (.list false (ints q.aC)),.d q.group,.d (.list false (q.bF.map gR)),.d q.order,.d q.ny]:=⟨_,rfl⟩
 have hb:∀m,qb.below m=true:=by intro m;subst hqb;simp -implicitDefEqProofs only[go_sem]
 obtain⟨pb,hpb⟩:∃pb,pb=ay.box 36 4 0 1 [.d (.list false (ints cs)),.d (.list false (ints key)),iA prows,.d (.list false (bg S))]:=⟨_,rfl⟩
 have hb2:∀m,pb.below m=true:=by intro m;subst hpb;simp -implicitDefEqProofs only[go_sem]
 rw[←hqb,←hpb]
 refine aU (fun k s H'=>H'=H++[pb,qb]∧s 3= .d (.list false (Z.map Zn.ds))∧s 5= .ptr H.length 0 0 0∧s 6= .ptr (H.length+1) 0 0 0∧s 11=du ((l.take k).foldl f (0,rows)).1∧s 12=du ((l.take k).foldl f (0,rows)).2∧s 17= .d (.list n1 (l.map Atom.enc))∧s 18=iA l.length∧s 19=iA k) l.length (by omega) (ak.refl _ _) ?_ ?_ ?_
 ·refine⟨rfl,?_⟩
  simp -implicitDefEqProofs only[↓reduceIte,go_sem,Nat.reduceLT,Nat.reduceEqDiff,List.take_zero,List.foldl_nil]
  rfl
 ·rintro k s H' hk hw ⟨rfl,t3,t5,t6,t11,t12,t17,t18,t19⟩
  have hx:(l.map Atom.enc)[k]?=some l[k].enc:=by simp[hk]
  have e1:(l.take (k+1)).foldl f (0,rows)=f ((l.take k).foldl f (0,rows)) l[k]:=by rw[List.take_succ_eq_append_getElem hk,List.foldl_append];rfl
  obtain⟨hl1,hl2⟩:=hlt k
  rw[e1,hstep]
  generalize (l.take k).foldl f (0,rows)=x at*
  obtain⟨sum,left⟩:=x
  generalize l[k]=a at*
  simp only at hl1 hl2 t11 t12⊢
  have hil:=sO a.dN cs
  have hid:=fun H=>kh cs a.dN false H (by omega)
  generalize cS a.dN cs=i at*
  simp -implicitDefEqProofs only[↓reduceIte,go_sem,ab,aq,Nat.reduceAdd,Nat.reduceLT,Nat.reduceEqDiff,t17,t18,t19,hk,hx,Atom.enc,t5]
  rw[hpb]
  simp -implicitDefEqProofs only[↓reduceIte,go_sem,ab,Nat.reduceAdd,Nat.reduceLT,Nat.reduceLeDiff,Nat.reduceEqDiff]
  refine ae.ok (hid _) ?_
  by_cases h0:i<0
  case' pos=>
   rw[if_neg (by omega)]
   simp -implicitDefEqProofs only[↓reduceIte,go_sem,Nat.reduceLT,Nat.reduceEqDiff,reduceCtorEq,show ¬(0:Int)≤i by omega,t19]
  case' neg=>
   obtain⟨j,rfl⟩:=Int.eq_ofNat_of_zero_le (show 0≤i by omega)
   by_cases hj:j<Z.length
   case' neg=>
    rw[if_neg (by omega)]
    simp -implicitDefEqProofs only[↓reduceIte,go_sem,Nat.reduceLT,Nat.reduceEqDiff,t3,dV,hj,t19]
   case' pos=>
    rw[if_pos ⟨by omega,by omega⟩]
    have hz:(Z.map Zn.ds)[j]?=some Z[j].ds:=by simp[hj]
    have hzd:Z.getD j kz=Z[j]:=by simp[hj]
    have hro:=fun H=>Ax Z[j] a (hZ _ (List.getElem_mem hj)) H
    have hzr:=hZ _ (List.getElem_mem hj)
    have hrl:=uD Z[j] a
    simp only[Int.toNat_natCast]
    rw[hzd]
    generalize jG Z[j] a=rz at*
    generalize Z[j]=z at*
    simp -implicitDefEqProofs only[↓reduceIte,go_sem,Nat.reduceLT,Nat.reduceEqDiff,t3,dV,hj,t11,t12]
    refine ae.ok (iy sum left hl1 hl2 _) ?_
    simp -implicitDefEqProofs only[↓reduceIte,go_sem,Nat.reduceLT]
    refine aF K.mixed (by kernel_rfl) ?_
    simp -implicitDefEqProofs only[↓reduceIte,go_sem,ab,Nat.reduceAdd,Nat.reduceLT,Nat.reduceEqDiff,t3,t12,hz,Zn.ds,iD]
    refine ae.ok (hro _) ?_
    have hwm:IntKind.u64.wrap (max (rz:Int) 0)=(rz:Int):=by rw[bz _ (by omega) (by omega)];omega
    have hmn:min (left:Int) (rz:Int)=((min left rz:Nat):Int):=by omega
    simp -implicitDefEqProofs only[↓reduceIte,go_sem,Nat.reduceLT,Nat.reduceEqDiff,hwm,hmn,t19]
  all_goals
   rw[←hpb]
   refine cl.cut [_,_] _ 2 rfl rfl (by simp -implicitDefEqProofs only[go_sem,hb,hb2]) ⟨rfl,?_⟩
   simp -implicitDefEqProofs only[↓reduceIte,go_sem,Nat.reduceLT,Nat.reduceEqDiff,t3,t5,t6,t11,t12,t17,t18,hw]
 ·rintro s H' ⟨rfl,t3,t5,t6,t11,t12,t17,t18,t19⟩
  obtain⟨hl1,hl2⟩:=hlt l.length
  rw[List.take_length]at t11 t12 hl1 hl2
  generalize l.foldl f (0,rows)=x at*
  obtain⟨sum,left⟩:=x
  simp only at hl1 hl2 t11 t12⊢
  simp -implicitDefEqProofs only[↓reduceIte,go_sem,ab,Nat.reduceLT,Nat.reduceEqDiff,t18,t19,t11,t12,t6]
  rw[hqb]
  simp -implicitDefEqProofs only[↓reduceIte,go_sem,Nat.reduceAdd,Nat.reduceLT]
  refine ae.ok (hn _) ?_
  simp -implicitDefEqProofs only[↓reduceIte,go_sem,Nat.reduceLT,Nat.reduceEqDiff,ao,bz (bY.length:Int) (by omega) (by omega)]
  refine ae.ok (p0 left bY.length hl2 (by omega) _) ?_
  simp -implicitDefEqProofs only[↓reduceIte,go_sem,Nat.reduceLT,Nat.reduceEqDiff]
  refine ae.ok (iy sum (eL left bY.length) hl1 (mD _ _) _) ?_
  simp -implicitDefEqProofs only[↓reduceIte,go_sem,Nat.reduceLT]
  refine an.ret ?_
  simp -implicitDefEqProofs only[↓reduceIte,go_sem,Nat.reduceLT]
def bS(q:Qu)(pl:Pl):List Atom:=if pl.late then dA q.pred pl.order else q.pred
def fi(p:Pj)(q:Qu)(pl:Pl)(sum k:Nat):Nat:=
 if iS p (aL p.bl k) (bS q pl)then sum else
  let rows:=((aL p.bl k).getD 0 kz).rows
  let s1:=if pl.late then ct (ct sum pl.rep.toNat) (l9 p q (bS q pl) (aL p.bl k) rows)else ct sum (fy p q rows)
  if pl.range then s1 else ct s1 (eL rows q.aE.length)
def gS(p:Pj)(q:Qu)(pl:Pl)(k:Nat):Nat:=(List.range k).foldl (fi p q pl) 0
def eN(p:Pj)(q:Qu)(pl:Pl):Nat:=gS p q pl (bq p.bl)
theorem jR(p:Pj)(q:Qu)(pl:Pl)(k:Nat):gS p q pl (k+1)=fi p q pl (gS p q pl k) k:=by simp[gS,List.range_succ]
theorem kn(p:Pj)(q:Qu)(pl:Pl):∀k,gS p q pl k<18446744073709551616
 |0=>by simp[gS]
 |k+1=>by
  rw[jR]
  unfold fi
  split
  ·exact kn p q pl k
  ·simp only
   split
   ·split<;>exact eS _ _
   ·exact eS _ _
theorem xO{S:List (List Sg)}{k:Nat}(h:¬k<bq S):aL S k=[]:=by unfold aL;rw[if_pos (.inr (by omega))]
theorem oW{S:List (List Sg)}{k:Nat}(h:k<bq S):aL S k=S.map (fun l=>cQ l k)∧0<S.length:=by
 unfold aL
 rw[if_neg (by omega)]
 refine⟨rfl,?_⟩
 cases S with
 |nil=>simp[bq]at h
 |cons=>simp
theorem vf(p:Pj)(hp:p.Ok)(q:Qu)(hq:q.Ok)(pl:Pl)(hpl:pl.order.length≤1000)(hrep:iJ pl.rep)(H:aa):ag Tryz.prog 12 [p.av,q.av,pl.av] H (.ok (du (eN p q pl))) H:=by
 unfold eN
 have hlt:=kn p q pl
 have hst:=fun k=>jR p q pl k
 have h0:gS p q pl 0=0:=rfl
 have hgn:=fun k=>xO (S:=p.bl) (k:=k)
 have hgp:=fun k=>oW (S:=p.bl) (k:=k)
 have hgd:=fun k (hk:iJ k) H=>pF p hp k hk H
 have hcs:∀sum k,fi p q pl sum k=if iS p (aL p.bl k) (bS q pl)then sum else if pl.range then(if pl.late then ct (ct sum pl.rep.toNat) (l9 p q (bS q pl) (aL p.bl k) ((aL p.bl k).getD 0 kz).rows)else ct sum (fy p q ((aL p.bl k).getD 0 kz).rows))else ct (if pl.late then ct (ct sum pl.rep.toNat) (l9 p q (bS q pl) (aL p.bl k) ((aL p.bl k).getD 0 kz).rows)else ct sum (fy p q ((aL p.bl k).getD 0 kz).rows)) (eL ((aL p.bl k).getD 0 kz).rows q.aE.length):=fun sum k=>by
  unfold fi;split<;>rfl
 have hzr:=fun(k:Int) z (h:z∈aL p.bl k)=>hp.fh h
 generalize gS p q pl=F at*
 generalize fi p q pl=G at*
 have hal:(bS q pl).length≤1000:=by
  unfold bS
  have:=hq.pred
  split
  ·exact Nat.le_trans (kr _ _) hpl
  ·omega
 have hpr:=fun k (hk:iJ k) H=>ye p hp (bS q pl) false (by omega) k hk H
 have hea:=fun rows (hr:rows<18446744073709551616) H=>xF p hp.aC q hq rows hr H
 have hla:=fun Z (hZ:∀z∈Z,z.rows≤1000000000) (hZl:Z.length≤1000000000) rows (hr:rows<18446744073709551616) H=>zT p hp.aC q hq (bS q pl) false (by omega) Z hZ hZl rows hr H
 have hor:=fun H=>uJ q.pred pl.order false false H (by have:=hq.pred;omega) (by omega)
 have hA:bS q pl=if pl.late then dA q.pred pl.order else q.pred:=rfl
 have hgs:=hp.many
 have hsl:=hp.len
 have hjl:=hq.aE
 generalize bS q pl=A at*
 obtain⟨pb,hpb⟩:∃pb,pb=ay.box 36 4 0 1 [.d (.list false (ints p.aC)),.d (.list false (ints p.key)),iA p.rows,.d (.list false (bg p.bl))]:=⟨_,rfl⟩
 obtain⟨qb,hqb⟩:∃qb,qb=ay.box 30 8 0 1 [.d q.table,.d (.list false (q.pred.map Atom.enc)),.d (.list false (q.aE.map ig)),.d (.list false (ints q.aC)),.d q.group,.d (.list false (q.bF.map gR)),.d q.order,.d q.ny]:=⟨_,rfl⟩
 obtain⟨proj,late,order,rep,range⟩:=pl
 simp only at*
 refine ag.ai (hint:=(fun _=>false)) Tryz.func12 (by kernel_rfl) rfl [6] (by kernel_rfl) (by decide) (by simp[Tryz.ntmps12]) ?_
 rw[Tryz.ntmps12]
 simp -implicitDefEqProofs only[↓reduceIte,go_sem,ab,Nat.reduceAdd,Nat.reduceLT,Nat.reduceLeDiff,Nat.reduceEqDiff,Pj.av,Pj.ds,Qu.av,Qu.ds,Pl.av,Pl.ds]
 rw[←hqb,←hpb]
 refine eK (fun s H'=>H'=H++[pb,qb,.box 32 5 0 1 [iA proj,bA late,.d (.list false (ints order)),iA rep,bA range]]∧s 3= .ptr H.length 0 0 0∧s 4= .ptr (H.length+1) 0 0 0∧s 5= .ptr (H.length+2) 0 0 0∧s 7= .d (.list false (A.map Atom.enc))) rfl ?_ ?_
 ·cases late
  ·simp -implicitDefEqProofs only[↓reduceIte,go_sem,Nat.reduceLT,Nat.reduceEqDiff,hqb,hpb,hA,Bool.false_eq_true]
  ·simp -implicitDefEqProofs only[↓reduceIte,go_sem,ab,Nat.reduceAdd,Nat.reduceLT,Nat.reduceLeDiff,Nat.reduceEqDiff,hqb]
   refine ae.ok (hor _) ?_
   simp -implicitDefEqProofs only[↓reduceIte,go_sem,Nat.reduceLT,Nat.reduceEqDiff,hA,hpb,hqb,iD]
 rintro s H' ⟨rfl,t3,t4,t5,t7⟩
 obtain⟨lb,hlb⟩:∃lb,lb=ay.box 32 5 0 1 [iA proj,bA late,.d (.list false (ints order)),iA rep,bA range]:=⟨_,rfl⟩
 rw[←hlb]
 simp -implicitDefEqProofs only[go_sem]
 refine bu Tryz.prog _ _ _ (fun k s H'=>k≤bq p.bl∧H'=H++[pb,qb,lb]∧s 3= .ptr H.length 0 0 0∧s 4= .ptr (H.length+1) 0 0 0∧s 5= .ptr (H.length+2) 0 0 0∧s 7= .d (.list false (A.map Atom.enc))∧s 8=du (F k)∧s 9=iA k) (fun k=>bq p.bl-k) 0 (ak.refl _ _) ?_ ?_
 ·refine⟨Nat.zero_le _,rfl,?_⟩
  simp -implicitDefEqProofs only[↓reduceIte,go_sem,Nat.reduceLT,Nat.reduceEqDiff,t3,t4,t5,t7,h0]
  rfl
 rintro k s H' ⟨hk,rfl,t3,t4,t5,t7,t8,t9⟩
 have hki:iJ k:=⟨by omega,by omega⟩
 simp -implicitDefEqProofs only[↓reduceIte,go_sem,ab,Nat.reduceAdd,Nat.reduceLT,Nat.reduceEqDiff,t3,t9,hpb]
 refine ae.ok (hgd k hki _) ?_
 by_cases hkg:k<bq p.bl
 case neg=>
  obtain rfl:k=bq p.bl:=by omega
  simp -implicitDefEqProofs only[↓reduceIte,go_sem,Nat.reduceLT,Nat.reduceEqDiff,hgn _ hkg,List.map_nil,List.length_nil,t8]
  refine an.ret ?_
  simp -implicitDefEqProofs only[↓reduceIte,go_sem,Nat.reduceLT]
 obtain⟨hZe,hS⟩:=hgp k hkg
 have hpk:=hpr k hki
 have hsk:=hst k
 rw[hcs]at hsk
 have hZr:=hzr k
 have hZl:(aL p.bl k).length=p.bl.length:=by rw[hZe];simp
 have hFk:=hlt k
 clear hZe
 generalize aL p.bl k=Z at*
 generalize iS p Z A=pr at*
 simp -implicitDefEqProofs only[↓reduceIte,go_sem,ab,Nat.reduceAdd,Nat.reduceLT,Nat.reduceEqDiff,List.length_map,hZl,show ¬((p.bl.length:Int)=0) by omega,t3,t7,t9]
 refine ae.ok (hpk _) ?_
 cases pr with
 |true=>
  simp -implicitDefEqProofs only[↓reduceIte,go_sem,Nat.reduceLT,Nat.reduceEqDiff,t9]
  rw[←hpb]
  refine⟨_,_,k+1,ak.refl _ _,⟨hkg,rfl,?_⟩,by omega⟩
  rw[hsk,if_pos rfl]
  simp -implicitDefEqProofs only[↓reduceIte,go_sem,Nat.reduceLT,Nat.reduceEqDiff,t3,t4,t5,t7,t8,wrap64_in ((k:Int)+1) (by omega) (by omega)]
 |false=>
 rw[if_neg (by simp)]at hsk
 have hz:(Z.map Zn.ds)[0]?=some Z[0].ds:=by simp[show 0<Z.length by omega]
 have hzd:Z.getD 0 kz=Z[0]:=by simp[show 0<Z.length by omega]
 have hz1:=hZr Z[0] (List.getElem_mem (by omega))
 rw[hzd]at hsk
 have hea:=hea Z[0].rows (by omega)
 have hla:=hla Z hZr (by omega) Z[0].rows (by omega)
 have hel:fy p q Z[0].rows<18446744073709551616:=mD _ _
 have hll:l9 p q A Z Z[0].rows<18446744073709551616:=eS _ _
 generalize Z[0]=z at*
 have hwr:IntKind.u64.wrap (max (z.rows:Int) 0)=(z.rows:Int):=by rw[bz _ (by omega) (by omega)];omega
 generalize hs1:(if late=true then ct (ct (F k) rep.toNat) (l9 p q A Z z.rows)else ct (F k) (fy p q z.rows))=s1 at*
 have hs1l:s1<18446744073709551616:=by rw[←hs1];split<;>exact eS _ _
 simp -implicitDefEqProofs only[↓reduceIte,go_sem,ab,Nat.reduceAdd,Nat.reduceLT,Nat.reduceLeDiff,Nat.reduceEqDiff,Int.reduceLE,Int.reduceToNat,hz,Zn.ds,iD,hwr,t5,hlb]
 rw[←hlb,←hpb]
 refine eK (fun s H'=>H'=H++[pb,qb,lb]∧s 3= .ptr H.length 0 0 0∧s 4= .ptr (H.length+1) 0 0 0∧s 5= .ptr (H.length+2) 0 0 0∧s 7= .d (.list false (A.map Atom.enc))∧s 8=du s1∧s 9=iA k∧s 11=du z.rows) rfl ?_ ?_
 ·cases late
  case' false=>
   rw[if_neg (by simp)]at hs1
   simp -implicitDefEqProofs only[↓reduceIte,go_sem,ab,Nat.reduceAdd,Nat.reduceLT,Nat.reduceEqDiff,t8,t3,t4,hqb,hpb]
   refine ae.ok (hea _) ?_
   simp -implicitDefEqProofs only[↓reduceIte,go_sem,Nat.reduceLT,Nat.reduceEqDiff]
   refine ae.ok (iy _ _ hFk hel _) ?_
   simp -implicitDefEqProofs only[↓reduceIte,go_sem,Nat.reduceLT,Nat.reduceEqDiff,hs1]
  case' true=>
   have hrw:IntKind.u64.wrap (max rep 0)=(rep.toNat:Int):=by rw[bz _ (by omega) (by have:=hrep.2;omega)];omega
   rw[if_pos rfl]at hs1
   simp -implicitDefEqProofs only[go_sem]
   refine aF K.mixed (by kernel_rfl) ?_
   simp -implicitDefEqProofs only[↓reduceIte,go_sem,ab,Nat.reduceAdd,Nat.reduceLT,Nat.reduceLeDiff,Nat.reduceEqDiff,t5,t8,hlb,hrw]
   refine ae.ok (iy _ _ hFk (by have:=hrep.2;omega) _) ?_
   simp -implicitDefEqProofs only[↓reduceIte,go_sem,ab,Nat.reduceAdd,Nat.reduceLT,Nat.reduceEqDiff,t3,t4,t7,hqb,hpb]
   refine ae.ok (hla _) ?_
   simp -implicitDefEqProofs only[↓reduceIte,go_sem,Nat.reduceLT,Nat.reduceEqDiff]
   refine ae.ok (iy _ _ (eS _ _) hll _) ?_
   simp -implicitDefEqProofs only[↓reduceIte,go_sem,Nat.reduceLT,Nat.reduceEqDiff,hs1]
  all_goals simp -implicitDefEqProofs only[go_sem,t3,t4,t5,t7,t9,hqb,hpb,hlb]
 rintro s H' ⟨rfl,t3,t4,t5,t7,t8,t9,t11⟩
 simp -implicitDefEqProofs only[↓reduceIte,go_sem,ab,Nat.reduceAdd,Nat.reduceLT,t5,hlb]
 rw[←hlb]
 cases range
 case' true=>
  rw[if_pos rfl]at hsk
  simp -implicitDefEqProofs only[↓reduceIte,go_sem,Nat.reduceLT,Nat.reduceEqDiff,t9]
 case' false=>
  rw[if_neg (by simp)]at hsk
  simp -implicitDefEqProofs only[↓reduceIte,go_sem,ab,Nat.reduceAdd,Nat.reduceLT,Nat.reduceLeDiff,Nat.reduceEqDiff,t8,t11,t4,hqb,List.length_map,bz (q.aE.length:Int) (by omega) (by omega)]
  refine ae.ok (p0 _ _ (by omega) (by omega) _) ?_
  simp -implicitDefEqProofs only[↓reduceIte,go_sem,Nat.reduceLT,Nat.reduceEqDiff]
  refine ae.ok (iy _ _ hs1l (mD _ _) _) ?_
  simp -implicitDefEqProofs only[↓reduceIte,go_sem,Nat.reduceLT,Nat.reduceEqDiff,t9]
  rw[←hqb]
 all_goals
  refine⟨_,_,k+1,ak.refl _ _,⟨hkg,rfl,?_⟩,by omega⟩
  simp -implicitDefEqProofs only[↓reduceIte,go_sem,Nat.reduceLT,Nat.reduceEqDiff,t3,t4,t5,t7,t8,hsk,wrap64_in ((k:Int)+1) (by omega) (by omega)]
def cu(o:List Int):List D:=[.list false (ints o)]
def j2(f:Int)(o:List Int):List Int:=o.map fun x=>if f≤x then x+1 else x
def cL:Nat→List (List Int)
 |0=>[[]]
 |n+1=>(upto (n+1)).flatMap fun f=>(cL n).map fun o=>f::j2 f o
def bR(n:Nat):List (List Int):=if 4<n then[upto n]else cL n
def lH(S:List (List Int))(k:Nat):List (List Int):=(upto k).flatMap fun f=>S.map fun o=>f::j2 f o
theorem rv(S:List (List Int))(k:Nat):lH S (k+1)=lH S k++S.map fun o=>(k:Int)::j2 k o:=by simp[lH,iv,List.flatMap_append]
theorem wa(S:List (List Int)):∀k,(lH S k).length=k* S.length
 |0=>by simp[lH,upto]
 |k+1=>by rw[rv,List.length_append,wa S k,List.length_map,Nat.succ_mul]
theorem kS:∀n,n≤4→(cL n).length≤24∧∀o∈cL n,o.length=n∧∀x∈o,0≤x∧x<4:=by decide
theorem qu(n:Nat)(hn:n≤3)(nn:Bool)(H:aa)(sub:ag Tryz.prog 61 [iA n] H (.ok (.d (.list nn ((cL n).map cu)))) H):
  ag Tryz.prog 61 [iA (n+1:Nat)] H (.ok (.d (.list false ((cL (n+1)).map cu)))) H:=by
 obtain⟨hS,hSo⟩:=kS n (by omega)
 have hR:cL (n+1)=lH (cL n) (n+1):=rfl
 rw[hR]
 generalize cL n=S at*
 have hw0:IntKind.i64.wrap (((n+1:Nat):Int)-1)=(n:Int):=by rw[wrap64_in _ (by omega) (by omega)];omega
 have c1:(((n+1:Nat):Int)<0)=False:=eq_false (by omega)
 have c2:((4:Int)<((n+1:Nat):Int))=False:=eq_false (by omega)
 have c3:(((n+1:Nat):Int)=0)=False:=eq_false (by omega)
 generalize hm:n+1=m at*
 refine ag.ai (hint:=(fun t=>t==36||t==1000021)) Tryz.func61 (by kernel_rfl) rfl [2] (by kernel_rfl) (by decide) (by simp[Tryz.ntmps61]) ?_
 rw[Tryz.ntmps61]
 simp -implicitDefEqProofs only[↓reduceIte,go_sem,Nat.reduceAdd,Nat.reduceLT,Nat.reduceEqDiff,Nat.reduceBEq,reduceCtorEq,c1,c2,c3,hw0]
 refine ae.ok sub ?_
 simp -implicitDefEqProofs only[↓reduceIte,go_sem,Nat.reduceAdd,Nat.reduceLT,Nat.reduceBEq]
 refine aA (fun k s H'=>∃ver,H'=H++[.arr 23 1 ver ((lH S k).map cu)]∧s 0=iA m∧s 3= .d (.list nn (S.map cu))∧s 4= .sl H.length ver 0 (lH S k).length∧s 5=iA k) m (by omega) (ak.eg _ _ 4 23 1 (by decide) (by simp -implicitDefEqProofs only[↓reduceIte,go_sem,Nat.reduceLT,Nat.reduceEqDiff]) _) ?_ ?_ ?_
 ·refine⟨0,?_⟩
  simp -implicitDefEqProofs only[↓reduceIte,go_sem,Nat.reduceLT,Nat.reduceEqDiff,reduceCtorEq,show lH S 0=[]from rfl]
 ·rintro k s H' hk hw ⟨ver,rfl,t0,t3,t4,t5⟩
  simp -implicitDefEqProofs only[↓reduceIte,go_sem,Nat.reduceLT,Nat.reduceEqDiff,reduceCtorEq,t0,t5,hk]
  refine aA (fun j s H'=>∃ver,H'=H++[.arr 23 1 ver ((lH S k++(S.take j).map fun o=>(k:Int)::j2 k o).map cu)]∧s 0=iA m∧s 3= .d (.list nn (S.map cu))∧s 4= .sl H.length ver 0 ((lH S k).length+j)∧s 5=iA k∧s 6=iA j) S.length (by omega) (ak.refl _ _) ?_ ?_ ?_
  ·refine⟨ver,?_⟩
   simp -implicitDefEqProofs only[↓reduceIte,go_sem,Nat.reduceLT,Nat.reduceEqDiff,reduceCtorEq,t0,t3,t4,t5,List.append_nil]
  ·rintro j s H' hj hwj ⟨ver,rfl,t0,t3,t4,t5,t6⟩
   have hx:=List.getElem?_eq_getElem hj
   have hsn:=List.take_succ_eq_append_getElem hj
   have ho:=(hSo S[j] (List.getElem_mem hj)).2
   have hol:=(hSo S[j] (List.getElem_mem hj)).1
   generalize S[j]=o at hx hsn ho hol
   generalize hO:lH S k++(S.take j).map (fun o=>(k:Int)::j2 k o)=O
   simp -implicitDefEqProofs only[↓reduceIte,go_sem,Nat.reduceAdd,Nat.reduceLT,Nat.reduceLeDiff,Nat.reduceEqDiff,Nat.reduceBEq,t3,t5,t6,hj]
   refine aA (fun i s H'=>∃v2,H'=H++[.arr 23 1 ver (O.map cu),.arr 3 1 v2 (ints ((k:Int)::j2 k (o.take i)))]∧s 0=iA m∧s 3= .d (.list nn (S.map cu))∧s 4= .sl H.length ver 0 ((lH S k).length+j)∧s 5=iA k∧s 6=iA j∧s 7= .sl (H.length+1) v2 0 (i+1)∧s 8=iA i) o.length (by omega) (ak.refl _ _) ?_ ?_ ?_
   ·refine⟨0,?_⟩
    simp -implicitDefEqProofs only[↓reduceIte,go_sem,Nat.reduceLT,Nat.reduceEqDiff,reduceCtorEq,t0,t3,t4,t5,t6,show j2 k []=[]from rfl,ints]
   ·rintro i s H' hi hwi ⟨v2,rfl,t0,t3,t4,t5,t6,t7,t8⟩
    have hy:=bD o i hi
    have hb:=ho o[i] (List.getElem_mem hi)
    have hs2:j2 k (o.take (i+1))=j2 k (o.take i)++[if(k:Int)≤o[i]then o[i]+1 else o[i]]:=by
     rw[List.take_succ_eq_append_getElem hi];simp only[j2,List.map_append,List.map_cons,List.map_nil]
    have hl2:(ints ((k:Int)::j2 k (o.take i))).length=i+1:=by
     rw[ao];simp[j2];omega
    generalize o[i]=x at hy hb hs2
    simp -implicitDefEqProofs only[↓reduceIte,go_sem,Nat.reduceAdd,Nat.reduceLT,Nat.reduceEqDiff,Nat.reduceBEq,t3,t6,t8,hx,cu,ao,hi,hy]
    by_cases hxk:(k:Int)≤x
    ·rw[if_pos hxk]at hs2
     simp -implicitDefEqProofs only[↓reduceIte,go_sem,Nat.reduceAdd,Nat.reduceLT,Nat.reduceLeDiff,Nat.reduceEqDiff,Nat.reduceBEq,t5,hxk,wrap64_in (x+1) (by omega) (by omega),t7,hl2,t8]
     refine⟨by omega,by omega,cl.same ⟨v2+1,?_⟩⟩
     simp -implicitDefEqProofs only[↓reduceIte,go_sem,Nat.reduceLT,Nat.reduceEqDiff,reduceCtorEq,t0,t3,t4,t5,t6,hwi,hs2,c8,List.cons_append]
    ·rw[if_neg hxk]at hs2
     simp -implicitDefEqProofs only[↓reduceIte,go_sem,Nat.reduceAdd,Nat.reduceLT,Nat.reduceLeDiff,Nat.reduceEqDiff,Nat.reduceBEq,t5,hxk,t7,hl2,t8]
     refine⟨by omega,by omega,cl.same ⟨v2+1,?_⟩⟩
     simp -implicitDefEqProofs only[↓reduceIte,go_sem,Nat.reduceLT,Nat.reduceEqDiff,reduceCtorEq,t0,t3,t4,t5,t6,hwi,hs2,c8,List.cons_append]
   ·rintro s H' ⟨v2,rfl,t0,t3,t4,t5,t6,t7,t8⟩
    simp -implicitDefEqProofs only[↓reduceIte,go_sem,Nat.reduceAdd,Nat.reduceLT,Nat.reduceLeDiff,Nat.reduceEqDiff,Nat.reduceBEq,t3,t6,t8,hx,cu,ao]
    refine⟨_,_,ak.cut [.arr 23 1 ver (O.map cu)] [.arr 3 1 v2 (ints ((k:Int)::j2 k (o.take o.length)))] 1 rfl _ (by simp -implicitDefEqProofs only[go_sem]),?_⟩
    have hlO:(O.map cu).length=(lH S k).length+j:=by rw[←hO];simp;omega
    have hl3:(ints ((k:Int)::j2 k o)).length=o.length+1:=by rw[ao];simp[j2]
    have hlk:=wa S k
    have hkS:k* S.length≤4* 24:=Nat.mul_le_mul (by omega) hS
    rw[←hlk]at hkS
    have hOn:(lH S k++(S.take (j+1)).map fun o=>(k:Int)::j2 k o).map cu=O.map cu++[[D.list false (ints ((k:Int)::j2 k o))]]:=by
     rw[←hO,hsn,List.map_append (l₁:=S.take j),←List.append_assoc,List.map_append (f:=cu)];rfl
    simp -implicitDefEqProofs only[↓reduceIte,go_sem,Nat.reduceAdd,Nat.reduceLT,Nat.reduceLeDiff,Nat.reduceEqDiff,Nat.reduceBEq,t4,t6,t7,b8,hl3,hlO]
    refine⟨by omega,by omega,cl.same ⟨ver+1,?_⟩⟩
    simp -implicitDefEqProofs only[↓reduceIte,go_sem,Nat.reduceLT,Nat.reduceEqDiff,reduceCtorEq,t0,t3,t5,hwj,hOn,Nat.add_assoc]
  ·rintro s H' ⟨ver,rfl,t0,t3,t4,t5,t6⟩
   simp -implicitDefEqProofs only[↓reduceIte,go_sem,Nat.reduceAdd,Nat.reduceLT,Nat.reduceEqDiff,Nat.reduceBEq,t3,t5,t6]
   refine cl.same ⟨ver,?_⟩
   simp -implicitDefEqProofs only[↓reduceIte,go_sem,Nat.reduceLT,Nat.reduceEqDiff,reduceCtorEq,t0,t3,t4,hw,rv,List.take_length,List.length_append]
 ·rintro s H' ⟨ver,rfl,t0,t3,t4,t5⟩
  simp -implicitDefEqProofs only[↓reduceIte,go_sem,Nat.reduceAdd,Nat.reduceLT,Nat.reduceEqDiff,Nat.reduceBEq,reduceCtorEq,t0,t4,t5]
  refine an.ret ?_
  simp -implicitDefEqProofs only[↓reduceIte,go_sem,Nat.reduceLT,b8]
theorem mw(n:Nat)(hn:n=0∨4<n)(hm:n≤1000)(H:aa):ag Tryz.prog 61 [iA n] H (.ok (.d (.list true ([upto n].map cu)))) H:=by
 have c1:((n:Int)<0)=False:=eq_false (by omega)
 refine ag.ai (hint:=(fun _=>false)) Tryz.func61 (by kernel_rfl) rfl [2] (by kernel_rfl) (by decide) (by simp[Tryz.ntmps61]) ?_
 rw[Tryz.ntmps61]
 rcases hn with h0|h4
 ·have c2:((4:Int)<(n:Int))=False:=eq_false (by omega)
  have c3:((n:Int)=0)=True:=eq_true (by omega)
  simp -implicitDefEqProofs only[↓reduceIte,go_sem,Nat.reduceLT,Nat.reduceEqDiff,reduceCtorEq,c1,c2,c3]
  refine ae.ok (gY n (by omega) _) ?_
  simp -implicitDefEqProofs only[↓reduceIte,go_sem,Nat.reduceLT,Nat.reduceLeDiff]
  refine an.aI ?_
  simp -implicitDefEqProofs only[↓reduceIte,go_sem,Nat.reduceLT,cu]
 ·have c2:((4:Int)<(n:Int))=True:=eq_true (by omega)
  simp -implicitDefEqProofs only[↓reduceIte,go_sem,Nat.reduceLT,Nat.reduceEqDiff,reduceCtorEq,c1,c2]
  refine ae.ok (gY n (by omega) _) ?_
  simp -implicitDefEqProofs only[↓reduceIte,go_sem,Nat.reduceLT,Nat.reduceLeDiff]
  refine an.aI ?_
  simp -implicitDefEqProofs only[↓reduceIte,go_sem,Nat.reduceLT,cu]
theorem qi(n:Nat)(hm:n≤1000)(H:aa):∃nn,ag Tryz.prog 61 [iA n] H (.ok (.d (.list nn ((bR n).map cu)))) H:=by
 by_cases h4:4<n
 ·exact⟨true,by unfold bR;rw[if_pos h4];exact mw n (.inr h4) hm H⟩
 ·unfold bR
  rw[if_neg h4]
  induction n with
  |zero=>exact⟨true,mw 0 (.inl rfl) hm H⟩
  |succ n ih=>
   obtain⟨nn,hd⟩:=ih (by omega) (by omega)
   exact⟨false,qu n (by omega) nn H hd⟩
def EM:Nat→Int
 |0=>1
 |k+1=>EM k* (k+2)
def Im(n:Nat):Nat:=if 4<n then 0 else n-1
theorem sJ:∀n,n≤4→(cL n).Nodup∧((cL n).length:Int)=EM (n-1):=by decide
theorem ep(n:Nat):(bR n).Nodup∧((bR n).length:Int)=EM (Im n)∧(bR n).length≤24∧∀o∈bR n,o.length=n:=by
 unfold bR Im
 by_cases h:4<n
 ·rw[if_pos h,if_pos h]
  refine⟨by simp,by simp[EM],by simp,fun o ho=>?_⟩
  rw[List.mem_singleton.1 ho,eD]
 ·rw[if_neg h,if_neg h]
  obtain⟨h1,h2⟩:=sJ n (by omega)
  obtain⟨h3,h4⟩:=kS n (by omega)
  exact⟨h1,h2,h3,fun o ho=>(h4 o ho).1⟩
def yb(n:Nat):Nat→List Int→List (List Int)
 |0,o=>[o]
 |k+1,o=>(upto n).flatMap fun i=>if i∈o then[]else yb n k (o++[i])
theorem F6:∀n,n≤4→yb n n []=cL n:=by decide+kernel
def dZ(H:aa)(n:Nat)(L:List (List Int))(ver:Nat)(T:aa):aa:=
 H++ .box 3 1 0 1 [iA n]:: .box 124 1 0 1 [.sl (H.length+3) ver 0 L.length]:: .box 173 1 0 1 [.fn 107 [.ptr H.length 0 0 0,.ptr (H.length+1) 0 0 0,.ptr (H.length+2) 0 0 0]]:: .arr 23 1 ver (L.map cu)::T
theorem A4(n:Nat)(o:List Int)(ho:o.length=n)(hn:0<n)(hn4:n≤4)(L:List (List Int))(hL:L.length≤100000)(nn:Bool)(H:aa)(ver:Nat)(T:aa):
  ag Tryz.prog 107 [.d (.list nn (ints o)),.ptr H.length 0 0 0,.ptr (H.length+1) 0 0 0,.ptr (H.length+2) 0 0 0] (dZ H n L ver T) (.ok (.a7 [])) (dZ H n (L++[o]) (ver+1) T):=by
 have hm:(L.map cu).length=L.length:=by simp
 have hlen:(((o.length:Nat):Int)=(n:Int))=True:=eq_true (by omega)
 have hfin:dZ H n (L++[o]) (ver+1) T=H++ .box 3 1 0 1 [iA n]:: .box 124 1 0 1 [.sl (H.length+3) (ver+1) 0 (L.length+1)]:: .box 173 1 0 1 [.fn 107 [.ptr H.length 0 0 0,.ptr (H.length+1) 0 0 0,.ptr (H.length+2) 0 0 0]]:: .arr 23 1 (ver+1) (L.map cu++[[D.list false (ints o)]])::T:=by
  simp[dZ,cu]
 rw[hfin]
 refine ag.ai (hint:=(fun _=>false)) Tryz.func107 (by kernel_rfl) rfl [] (by kernel_rfl) (by decide) (by simp[Tryz.ntmps107]) ?_
 rw[Tryz.ntmps107]
 simp -implicitDefEqProofs only[↓reduceIte,go_sem,ab,Nat.reduceLT,Nat.reduceEqDiff,dZ,ao,ho]
 refine iF 4 K.mixed (by kernel_rfl) (by kernel_rfl) ?_
 simp -implicitDefEqProofs only[↓reduceIte,go_sem,ab,Nat.reduceLT,Nat.reduceEqDiff,reduceCtorEq]
 refine ae.ok (dX o nn _ (by omega) (by omega)) ?_
 simp -implicitDefEqProofs only[↓reduceIte,go_sem,aq,Nat.reduceLT,Nat.reduceLeDiff,Nat.reduceEqDiff,hm,List.length_append]
 exact⟨by omega,by omega,_,ak.refl _ _,rfl⟩
theorem qF(l:List Int)(n1:Bool)(H:aa)(h0:0<l.length)(hl:l.length≤1000000000000):ag Tryz.prog 73 [.d (.list n1 (ints l))] H (.ok (.sl H.length 1 0 l.length)) (H++[.arr 3 1 1 (ints l)]):=by
 have e1:=mj h0
 refine ag.ai (hint:=(fun _=>false)) Tryz.func73 (by kernel_rfl) rfl [2] (by kernel_rfl) (by decide) (by simp[Tryz.ntmps73]) ?_
 rw[Tryz.ntmps73]
 simp -implicitDefEqProofs only[↓reduceIte,go_sem,Nat.reduceLT,Nat.reduceEqDiff,reduceCtorEq,e1,mA,ao]
 refine⟨by omega,by omega,_,ak.refl _ _,?_⟩
 simp -implicitDefEqProofs only[↓reduceIte,go_sem,Nat.reduceLT]
theorem zD(H:aa)(n:Nat)(L L':List (List Int))(v v':Nat)(T X:aa)(s:Nat→AV):ak (dZ H n L v T) s (dZ H n L' v' (T++X)) (fun t=>pZ (dZ H n L' v' (T++X)) (H.length+(4+T.length)) (s t)) (dZ H n L' v' T):=by
 have hl0:(dZ H n L v T).length=H.length+(4+T.length):=by unfold dZ;simp only[List.length_append,List.length_cons];omega
 have hl1:(dZ H n L' v' (T++X)).length=H.length+(4+T.length)+X.length:=by unfold dZ;simp only[List.length_append,List.length_cons];omega
 have key:=ak.uF (H0:=dZ H n L v T) s (dZ H n L' v' (T++X)) (H.length+(4+T.length)) (by omega) (by omega) ?_
 ·have e:(dZ H n L' v' (T++X)).take (H.length+(4+T.length))=dZ H n L' v' T:=by
   unfold dZ
   rw[List.take_length_add_append,show 4+T.length=T.length+4 from by omega]
   simp
  rwa[e]at key
 ·intro i o hi ho
  rcases Nat.lt_or_ge i H.length with h|h
  ·left
   unfold dZ at ho⊢
   rw[List.getElem?_append_left h]at ho⊢
   exact ho
  ·obtain⟨j,rfl⟩:=Nat.exists_eq_add_of_le h
   unfold dZ at ho⊢
   rw[List.getElem?_append_right (by omega),Nat.add_sub_cancel_left]at ho⊢
   rcases j with _|_|_|_|j
   ·left;exact ho
   ·right
    simp at ho
    subst ho
    rw[rk]
    simp only[List.all_cons,qQ,List.all_nil,Bool.and_true,decide_eq_true_eq]
    omega
   ·left;exact ho
   ·right
    simp at ho
    subst ho
    rfl
   ·left
    simp only[List.getElem?_cons_succ]at ho⊢
    rwa[List.getElem?_append_left (by omega)]at ho
def dp(H:aa)(n:Nat)(M:List (List Int))(T:aa):aa:=dZ H n M M.length T
def cd(n k:Nat)(o:List Int)(j:Nat):List (List Int):=(upto j).flatMap fun i=>if i∈o then[]else yb n k (o++[i])
theorem iR(n k:Nat)(o:List Int)(j:Nat):cd n k o (j+1)=cd n k o j++if(j:Int)∈o then[]else yb n k (o++[(j:Int)]):=by simp[cd,iv,List.flatMap_append]
theorem BE(n k:Nat)(hn4:n≤4)(o:List Int)(ho:o.length+(k+1)=n)(h0:0<o.length)(nn:Bool)(H:aa)(b:Nat)
  (ih:∀(i:Int) (L:List (List Int)) (T:aa),L.length≤b→ag Tryz.prog 107 [.d (.list false (ints (o++[i]))),.ptr H.length 0 0 0,.ptr (H.length+1) 0 0 0,.ptr (H.length+2) 0 0 0] (dp H n L T) (.ok (.a7 [])) (dp H n (L++yb n k (o++[i])) T))
  (L:List (List Int)) (hL:∀j,j<n→(L++cd n k o j).length≤b) (T:aa):
  ag Tryz.prog 107 [.d (.list nn (ints o)),.ptr H.length 0 0 0,.ptr (H.length+1) 0 0 0,.ptr (H.length+2) 0 0 0] (dp H n L T) (.ok (.a7 [])) (dp H n (L++cd n k o n) T):=by
 have c1:(((o.length:Nat):Int)=(n:Int))=False:=eq_false (by omega)
 have c2:(o.length=n)=False:=eq_false (by omega)
 generalize hE1:dp H n (L++cd n k o n) T=E1
 refine ag.ai (hint:=(fun _=>false)) Tryz.func107 (by kernel_rfl) rfl [] (by kernel_rfl) (by decide) (by simp[Tryz.ntmps107]) ?_
 rw[Tryz.ntmps107]
 simp -implicitDefEqProofs only[↓reduceIte,go_sem,ab,Nat.reduceLT,Nat.reduceEqDiff,dp,dZ,ao,c1]
 refine aU (fun j s H'=>H'=dp H n (L++cd n k o j) T∧s 0= .d (.list nn (ints o))∧s 1= .ptr H.length 0 0 0∧s 2= .ptr (H.length+1) 0 0 0∧s 3= .ptr (H.length+2) 0 0 0∧s 15=iA n∧s 16=iA j) n (by omega) (ak.refl _ _) ?_ ?_ ?_
 ·refine⟨?_,?_⟩
  ·simp[cd,upto,dp,dZ]
  ·simp -implicitDefEqProofs only[↓reduceIte,go_sem,Nat.reduceLT,Nat.reduceEqDiff,reduceCtorEq]
 ·rintro j s H' hj hw ⟨rfl,t0,t1,t2,t3,t15,t16⟩
  simp -implicitDefEqProofs only[↓reduceIte,go_sem,Nat.reduceLT,Nat.reduceEqDiff,reduceCtorEq,t0,t15,t16,hj]
  refine ae.ok (ez o j nn _ (by omega)) ?_
  have hLj:=hL j hj
  have hsc:=iR n k o j
  by_cases hin:(j:Int)∈o
  ·rw[if_pos hin,List.append_nil]at hsc
   simp -implicitDefEqProofs only[↓reduceIte,go_sem,Nat.reduceLT,Nat.reduceEqDiff,hin,t16]
   refine cl.same ⟨by rw[hsc],?_⟩
   simp -implicitDefEqProofs only[↓reduceIte,go_sem,Nat.reduceLT,Nat.reduceEqDiff,reduceCtorEq,t0,t1,t2,t3,t15,hw]
  ·rw[if_neg hin]at hsc
   have hLL:(L++cd n k o j++yb n k (o++[(j:Int)]))=L++cd n k o (j+1):=by rw[hsc,List.append_assoc]
   have hd:=ih j (L++cd n k o j) (T++[.arr 3 1 3 []]) hLj
   rw[hLL]at hd
   have h3:(dp H n (L++cd n k o j) T)[H.length+2]?=some (.box 173 1 0 1 [.fn 107 [.ptr H.length 0 0 0,.ptr (H.length+1) 0 0 0,.ptr (H.length+2) 0 0 0]]):=by simp[dp,dZ]
   have hT:dp H n (L++cd n k o j) (T++[.arr 3 1 3 []])=dp H n (L++cd n k o j) T++[.arr 3 1 3 []]:=by simp[dp,dZ]
   rw[hT]at hd
   generalize dp H n (L++cd n k o j) T=E at*
   have hlt:H.length+2<E.length:=(List.getElem?_eq_some_iff.1 h3).1
   simp -implicitDefEqProofs only[↓reduceIte,go_sem,Nat.reduceLT,hin]
   refine q9 [false,false,true,false,false,true] K.mixed (by kernel_rfl) (by kernel_rfl) (by kernel_rfl) ?_
   simp -implicitDefEqProofs only[↓reduceIte,go_sem,ab,Nat.reduceLT,Nat.reduceEqDiff,reduceCtorEq,t0,t3,h3]
   refine ae.ok (qF o nn E h0 (by omega)) ?_
   simp -implicitDefEqProofs only[↓reduceIte,go_sem,Nat.reduceAdd,Nat.reduceLT,Nat.reduceLeDiff,Nat.reduceEqDiff,ao,c8]
   refine⟨Ext.app _ _,by omega,by omega,Ext.app _ _,?_⟩
   have e2:(E++[ay.arr 3 1 2 (ints (o++[(j:Int)]))]).set E.length (.arr 3 1 3 [])=E++[.arr 3 1 3 []]:=by simp
   refine ae.pZ [] (e:=3) (k:=1) (ver:=2) (es:=ints (o++[(j:Int)])) (by simp) (by rw[List.drop_zero,List.take_of_length_le (by rw[ao];simp),e2];exact hd) ?_
   simp -implicitDefEqProofs only[↓reduceIte,go_sem,Nat.reduceLT,Nat.reduceEqDiff,t16]
   refine⟨_,_,zD H n L (L++cd n k o (j+1)) L.length (L++cd n k o (j+1)).length T [.arr 3 1 3 []] _,rfl,?_⟩
   have q1:H.length<H.length+(4+T.length):=by omega
   have q2:H.length+1<H.length+(4+T.length):=by omega
   have q3:H.length+2<H.length+(4+T.length):=by omega
   simp -implicitDefEqProofs only[↓reduceIte,go_sem,Nat.reduceLT,Nat.reduceEqDiff,reduceCtorEq,t0,t1,t2,t3,t15,hw,q1,q2,q3]
 ·rintro s H' ⟨rfl,t0,t1,t2,t3,t15,t16⟩
  rw[hE1]
  simp -implicitDefEqProofs only[↓reduceIte,go_sem,Nat.reduceLT,t15,t16]
  exact⟨_,ak.refl _ _,rfl⟩
theorem AA(n k:Nat)(hn4:n≤4)(ho:k+1=n)(H:aa)(b:Nat)
  (ih:∀(i:Int) (L:List (List Int)) (T:aa),L.length≤b→ag Tryz.prog 107 [.d (.list false (ints [i])),.ptr H.length 0 0 0,.ptr (H.length+1) 0 0 0,.ptr (H.length+2) 0 0 0] (dp H n L T) (.ok (.a7 [])) (dp H n (L++yb n k [i]) T))
  (L:List (List Int)) (hL:∀j,j<n→(L++cd n k [] j).length≤b) (T:aa):
  ag Tryz.prog 107 [.d (.v (.slice none 0 0)),.ptr H.length 0 0 0,.ptr (H.length+1) 0 0 0,.ptr (H.length+2) 0 0 0] (dp H n L T) (.ok (.a7 [])) (dp H n (L++cd n k [] n) T):=by
 have c1:((0:Int)=(n:Int))=False:=eq_false (by omega)
 have c2:(0=n)=False:=eq_false (by omega)
 generalize hE1:dp H n (L++cd n k [] n) T=E1
 refine ag.ai (hint:=(fun _=>false)) Tryz.func107 (by kernel_rfl) rfl [] (by kernel_rfl) (by decide) (by simp[Tryz.ntmps107]) ?_
 rw[Tryz.ntmps107]
 simp -implicitDefEqProofs only[↓reduceIte,go_sem,ab,Nat.reduceLT,Nat.reduceEqDiff,dp,dZ,c1]
 refine aU (fun j s H'=>H'=dp H n (L++cd n k [] j) T∧s 0= .d (.v (.slice none 0 0))∧s 1= .ptr H.length 0 0 0∧s 2= .ptr (H.length+1) 0 0 0∧s 3= .ptr (H.length+2) 0 0 0∧s 15=iA n∧s 16=iA j) n (by omega) (ak.refl _ _) ?_ ?_ ?_
 ·refine⟨?_,?_⟩
  ·simp[cd,upto,dp,dZ]
  ·simp -implicitDefEqProofs only[↓reduceIte,go_sem,Nat.reduceLT,Nat.reduceEqDiff,reduceCtorEq]
 ·rintro j s H' hj hw ⟨rfl,t0,t1,t2,t3,t15,t16⟩
  simp -implicitDefEqProofs only[↓reduceIte,go_sem,Nat.reduceLT,Nat.reduceEqDiff,reduceCtorEq,t0,t15,t16,hj]
  refine ae.sub (.cons .nil (.cons (.refl _) .nil)) (ez [] j false _ (by simp)) ?_
  have hLj:=hL j hj
  have hsc:=iR n k [] j
  have hin:¬(j:Int)∈([]:List Int):=by simp
  ·rw[if_neg hin]at hsc
   have hLL:(L++cd n k [] j++yb n k [(j:Int)])=L++cd n k [] (j+1):=by rw[hsc,List.append_assoc];rfl
   have hd:=ih j (L++cd n k [] j) (T++[.arr 3 1 2 []]) hLj
   rw[hLL]at hd
   have h3:(dp H n (L++cd n k [] j) T)[H.length+2]?=some (.box 173 1 0 1 [.fn 107 [.ptr H.length 0 0 0,.ptr (H.length+1) 0 0 0,.ptr (H.length+2) 0 0 0]]):=by simp[dp,dZ]
   have hT:dp H n (L++cd n k [] j) (T++[.arr 3 1 2 []])=dp H n (L++cd n k [] j) T++[.arr 3 1 2 []]:=by simp[dp,dZ]
   rw[hT]at hd
   generalize dp H n (L++cd n k [] j) T=E at*
   have hlt:H.length+2<E.length:=(List.getElem?_eq_some_iff.1 h3).1
   simp -implicitDefEqProofs only[↓reduceIte,go_sem,Nat.reduceLT,List.not_mem_nil]
   refine q9 [false,false,true,false,false,true] K.mixed (by kernel_rfl) (by kernel_rfl) (by kernel_rfl) ?_
   simp -implicitDefEqProofs only[↓reduceIte,go_sem,ab,Nat.reduceLT,Nat.reduceEqDiff,reduceCtorEq,t0,t3,h3]
   refine ae.ok (c4 E) ?_
   simp -implicitDefEqProofs only[↓reduceIte,go_sem,Nat.reduceLT,Nat.reduceLeDiff,Nat.reduceEqDiff]
   refine⟨Ext.refl _,Ext.app _ _,?_⟩
   have e2:(E++[ay.arr 3 1 1 [[.v (.int .i64 (j:Int))]]]).set E.length (.arr 3 1 2 [])=E++[.arr 3 1 2 []]:=by simp
   refine ae.pZ [] (e:=3) (k:=1) (ver:=1) (es:=[[.v (.int .i64 (j:Int))]]) (by simp) (by rw[e2];exact hd) ?_
   simp -implicitDefEqProofs only[↓reduceIte,go_sem,Nat.reduceLT,Nat.reduceEqDiff,t16]
   refine⟨_,_,zD H n L (L++cd n k [] (j+1)) L.length (L++cd n k [] (j+1)).length T [.arr 3 1 2 []] _,rfl,?_⟩
   have q1:H.length<H.length+(4+T.length):=by omega
   have q2:H.length+1<H.length+(4+T.length):=by omega
   have q3:H.length+2<H.length+(4+T.length):=by omega
   simp -implicitDefEqProofs only[↓reduceIte,go_sem,Nat.reduceLT,Nat.reduceEqDiff,reduceCtorEq,t0,t1,t2,t3,t15,hw,q1,q2,q3]
 ·rintro s H' ⟨rfl,t0,t1,t2,t3,t15,t16⟩
  rw[hE1]
  simp -implicitDefEqProofs only[↓reduceIte,go_sem,Nat.reduceLT,t15,t16]
  exact⟨_,ak.refl _ _,rfl⟩
theorem zm(n:Nat)(hn:n≤4):∀(k:Nat) (o:List Int),(yb n k o).length≤4^k
 |0,o=>by simp[yb]
 |k+1,o=>by
  have:∀j,(cd n k o j).length≤j* 4^k:=by
   intro j
   induction j with
   |zero=>simp[cd,upto]
   |succ j ih=>
    rw[iR,List.length_append,Nat.succ_mul]
    have:=zm n hn k (o++[(j:Int)])
    split
    ·simp;omega
    ·omega
  have h:=this n
  have e:yb n (k+1) o=cd n k o n:=rfl
  rw[e,Nat.pow_succ,Nat.mul_comm]
  exact Nat.le_trans h (Nat.mul_le_mul_right _ hn)
theorem qV(n:Nat)(hn:n≤4)(k:Nat)(o:List Int):∀j,(cd n k o j).length≤j* 4^k:=by
 intro j
 induction j with
 |zero=>simp[cd,upto]
 |succ j ih=>
  rw[iR,List.length_append,Nat.succ_mul]
  have:=zm n hn k (o++[(j:Int)])
  split
  ·simp;omega
  ·omega
theorem qY(n:Nat)(hn:0<n)(hn4:n≤4)(H:aa):∀(k:Nat) (o:List Int) (nn:Bool) (L:List (List Int)) (T:aa),o.length+k=n→0<o.length→L.length≤100000-4^k→k≤4→
  ag Tryz.prog 107 [.d (.list nn (ints o)),.ptr H.length 0 0 0,.ptr (H.length+1) 0 0 0,.ptr (H.length+2) 0 0 0] (dp H n L T) (.ok (.a7 [])) (dp H n (L++yb n k o) T)
 |0,o,nn,L,T,ho,h0,hL,_=>by
  have:=A4 n o (by omega) hn hn4 L (by omega) nn H L.length T
  have e:(L++yb n 0 o).length=L.length+1:=by simp[yb]
  unfold dp
  rw[e]
  exact this
 |k+1,o,nn,L,T,ho,h0,hL,hk=>by
  have hp:4^k≤256:=by
   have:k≤4:=by omega
   rcases k with _|_|_|_|_|k<;>first|decide|omega
  refine BE n k hn4 o ho h0 nn H (100000-4^k) (fun i L T hL=>qY n hn hn4 H k (o++[i]) false L T (by simp;omega) (by simp) hL (by omega)) L (fun j hj=>?_) T
  have:=qV n hn4 k o j
  have h2:j* 4^k≤3* 4^k:=Nat.mul_le_mul_right _ (by omega)
  rw[Nat.pow_succ]at hL
  rw[List.length_append]
  omega
theorem z7(n:Nat)(hn:0<n)(hn4:n≤4)(H T:aa):
  ag Tryz.prog 107 [.d (.v (.slice none 0 0)),.ptr H.length 0 0 0,.ptr (H.length+1) 0 0 0,.ptr (H.length+2) 0 0 0] (dp H n [] T) (.ok (.a7 [])) (dp H n (yb n n []) T):=by
 obtain⟨k,rfl⟩:∃k,n=k+1:=⟨n-1,by omega⟩
 have hp:4^k≤64:=by
  have:k≤3:=by omega
  rcases k with _|_|_|_|k<;>first|decide|omega
 refine AA (k+1) k hn4 rfl H (100000-4^k) (fun i L T hL=>qY (k+1) hn hn4 H k [i] false L T (by simp;omega) (by simp) hL (by omega)) [] (fun j hj=>?_) T
 have:=qV (k+1) hn4 k [] j
 have h2:j* 4^k≤4* 4^k:=Nat.mul_le_mul_right _ (by omega)
 rw[List.nil_append]
 omega
theorem nR(n:Nat)(hn:4<n)(hm:n≤1000)(H:aa):ag Tryz.prog 57 [iA n] H (.ok (.d (.list true ([upto n].map cu)))) H:=by
 have c1:((n:Int)<0)=False:=eq_false (by omega)
 have c2:((4:Int)<(n:Int))=True:=eq_true (by omega)
 refine ag.ai (hint:=(fun _=>false)) Tryz.func57 (by kernel_rfl) rfl [2] (by kernel_rfl) (by decide) (by simp[Tryz.ntmps57]) ?_
 rw[Tryz.ntmps57]
 simp -implicitDefEqProofs only[↓reduceIte,go_sem,ab,Nat.reduceLT,Nat.reduceEqDiff,c1,c2]
 refine ae.ok (nH n (by omega) _) ?_
 simp -implicitDefEqProofs only[↓reduceIte,go_sem,Nat.reduceLT,Nat.reduceLeDiff]
 refine an.ret ?_
 simp -implicitDefEqProofs only[↓reduceIte,go_sem,Nat.reduceLT,cu]
theorem jx(n:Nat)(hn:0<n)(hn4:n≤4)(H:aa):ag Tryz.prog 57 [iA n] H (.ok (.d (.list false ((cL n).map cu)))) H:=by
 have c1:((n:Int)<0)=False:=eq_false (by omega)
 have c2:((4:Int)<(n:Int))=False:=eq_false (by omega)
 have c3:(4<n)=False:=eq_false (by omega)
 have hr:=z7 n hn hn4 H []
 rw[F6 n hn4]at hr
 generalize cL n=S at hr⊢
 refine ag.ai (hint:=(fun t=>t==1000008)) Tryz.func57 (by kernel_rfl) rfl [2] (by kernel_rfl) (by decide) (by simp[Tryz.ntmps57]) ?_
 rw[Tryz.ntmps57]
 simp -implicitDefEqProofs only[↓reduceIte,go_sem,ab,aq,Nat.reduceAdd,Nat.reduceLT,Nat.reduceEqDiff,Nat.reduceBEq,c1,c2]
 refine⟨_,_,ak.df _ (H++[.box 3 1 0 1 [iA n],.box 124 1 0 1 [.d (.v (.slice none 0 0))],.box 173 1 0 1 [.fn 107 [.ptr H.length 0 0 0,.ptr (H.length+1) 0 0 0,.ptr (H.length+2) 0 0 0]]]) (H.length+1) 124 1 0 1 [.d (.v (.slice none 0 0))] 0 (.d (.v (.slice none 0 0))) 23 1 (by decide) (by simp[]) rfl rfl,?_⟩
 simp -implicitDefEqProofs only[↓reduceIte,go_sem,ab,Nat.reduceAdd,Nat.reduceLT,Nat.reduceEqDiff]
 refine ae.ok (r:= .a7 []) (H':=dp H n S []) (by exact hr) ?_
 simp -implicitDefEqProofs only[↓reduceIte,go_sem,ab,Nat.reduceAdd,Nat.reduceLT,Nat.reduceEqDiff,Nat.reduceBEq,dp,dZ]
 refine an.ret ?_
 simp -implicitDefEqProofs only[↓reduceIte,go_sem,Nat.reduceLT,b8]
theorem ag.EO{P:Program}{f:FuncId}{args:List AV}{H H':aa}{b:Bool}(h:ag P f args H (.ok (.d (.list b [[.v (.slice none 0 0)]]))) H'):ag P f args H (.ok (.d (.list b [[.list false []]]))) H':=by
 intro φ N w vals hR hA
 have go:∀e' w',(∃φ' N',Rel H' φ' N' w'∧au H φ N w H' φ' N' w'∧pS H' φ' N' w' (.ok (.d (.list b [[.v (.slice none 0 0)]]))) e')→∃φ' N',Rel H' φ' N' w'∧au H φ N w H' φ' N' w'∧pS H' φ' N' w' (.ok (.d (.list b [[.list false []]]))) e':=by
  rintro e' w' ⟨φ',N',hR',hS',hE⟩
  refine⟨φ',N',hR',hS',?_⟩
  cases e' with
  |returned v=>
   have hE:RA H' φ' N' w' (.d (.list b [[.v (.slice none 0 0)]])) v:=hE
   show RA H' φ' N' w' (.d (.list b [[.list false []]])) v
   cases hE with
   |d hd=>
    cases hd with
    |list nn es ad cap k c hc hk hcell hd=>
     refine .d (.list b [[.list false []]] ad cap k c hc (fun e he=>?_) (fun i j hi hj=>hcell i j hi hj) fun i hi j hj=>?_)
     ·have:=hk [.v (.slice none 0 0)] (by simp)
      simp at he
      subst he
      simpa using this
     ·have hi0:i=0:=by simp at hi;omega
      subst hi0
      have hj0:j=0:=by simp at hj;omega
      subst hj0
      have:=hd 0 (by simp) 0 (by simp)
      simp only[List.getElem_cons_zero]at this⊢
      generalize c 0 0=u at this⊢
      cases this with
      |v _ hx=>exact .nil none 0 fun _=>rfl
  |panicked ps=>exact hE
  |_=>exact hE
 rcases h φ N w vals hR hA with⟨h5,h6⟩|⟨v,w',h5,h6⟩
 ·exact .inl ⟨h5,h6.mono go⟩
 ·exact .inr ⟨v,w',h5,go _ _ h6⟩
theorem xb(H:aa):ag Tryz.prog 107 [.d (.v (.slice none 0 0)),.ptr H.length 0 0 0,.ptr (H.length+1) 0 0 0,.ptr (H.length+2) 0 0 0] (dp H 0 [] []) (.ok (.a7 []))
  (H++[.box 3 1 0 1 [iA 0],.box 124 1 0 1 [.sl (H.length+3) 1 0 1],.box 173 1 0 1 [.fn 107 [.ptr H.length 0 0 0,.ptr (H.length+1) 0 0 0,.ptr (H.length+2) 0 0 0]],.arr 23 1 1 [[.v (.slice none 0 0)]]]):=by
 refine ag.ai (hint:=(fun _=>false)) Tryz.func107 (by kernel_rfl) rfl [] (by kernel_rfl) (by decide) (by simp[Tryz.ntmps107]) ?_
 rw[Tryz.ntmps107]
 simp -implicitDefEqProofs only[↓reduceIte,go_sem,ab,Nat.reduceLT,Nat.reduceEqDiff,dp,dZ,List.map_nil]
 refine iF 4 K.mixed (by kernel_rfl) (by kernel_rfl) ?_
 simp -implicitDefEqProofs only[↓reduceIte,go_sem,ab,Nat.reduceLT,Nat.reduceEqDiff,reduceCtorEq]
 refine ae.ok (c4 _) ?_
 simp -implicitDefEqProofs only[↓reduceIte,go_sem,aq,Nat.reduceAdd,Nat.reduceLT,Nat.reduceLeDiff,Nat.reduceEqDiff]
 exact⟨_,ak.refl _ _,rfl⟩
theorem im(H:aa):ag Tryz.prog 57 [iA 0] H (.ok (.d (.list false ((cL 0).map cu)))) H:=by
 refine ag.EO ?_
 have hr:=xb H
 refine ag.ai (hint:=(fun t=>t==1000008)) Tryz.func57 (by kernel_rfl) rfl [2] (by kernel_rfl) (by decide) (by simp[Tryz.ntmps57]) ?_
 rw[Tryz.ntmps57]
 simp -implicitDefEqProofs only[↓reduceIte,go_sem,ab,aq,Nat.reduceAdd,Nat.reduceLT,Nat.reduceEqDiff,Nat.reduceBEq,Int.reduceLT]
 refine⟨_,_,ak.df _ (H++[.box 3 1 0 1 [iA 0],.box 124 1 0 1 [.d (.v (.slice none 0 0))],.box 173 1 0 1 [.fn 107 [.ptr H.length 0 0 0,.ptr (H.length+1) 0 0 0,.ptr (H.length+2) 0 0 0]]]) (H.length+1) 124 1 0 1 [.d (.v (.slice none 0 0))] 0 (.d (.v (.slice none 0 0))) 23 1 (by decide) (by simp[]) rfl rfl,?_⟩
 simp -implicitDefEqProofs only[↓reduceIte,go_sem,ab,Nat.reduceAdd,Nat.reduceLT,Nat.reduceEqDiff]
 refine ae.ok (by exact hr) ?_
 simp -implicitDefEqProofs only[↓reduceIte,go_sem,ab,Nat.reduceAdd,Nat.reduceLT,Nat.reduceEqDiff,Nat.reduceBEq]
 refine an.ret ?_
 simp -implicitDefEqProofs only[↓reduceIte,go_sem,Nat.reduceLT]
theorem ng(n:Nat)(hm:n≤1000):∃nn,∀H:aa,ag Tryz.prog 57 [iA n] H (.ok (.d (.list nn ((bR n).map cu)))) H:=by
 unfold bR
 by_cases h4:4<n
 ·rw[if_pos h4];exact⟨true,fun H=>nR n h4 hm H⟩
 ·rw[if_neg h4]
  rcases n with _|n
  ·exact⟨false,fun H=>im H⟩
  ·exact⟨false,fun H=>jx (n+1) (by omega) (by omega) H⟩
theorem s5(H:aa):ag Tryz.prog 21 [] H (.ok (bA true)) H:=by
 have e3:(cL 3).map cu=[cu [0,1,2],cu [0,2,1],cu [1,0,2],cu [1,2,0],cu [2,0,1],cu [2,1,0]]:=by
  rw[show cL 3=[[0,1,2],[0,2,1],[1,0,2],[1,2,0],[2,0,1],[2,1,0]]from by decide];rfl
 have e0:(cL 0).map cu=[[.list false []]]:=rfl
 have h3:=jx 3 (by decide) (by decide) H
 rw[e3]at h3
 refine ag.ai (hint:=(fun _=>false)) Tryz.func21 (by kernel_rfl) rfl [0] (by kernel_rfl) (by decide) (by simp[Tryz.ntmps21]) ?_
 rw[Tryz.ntmps21]
 simp -implicitDefEqProofs only[go_sem]
 refine ae.ok h3 ?_
 simp -implicitDefEqProofs only[↓reduceIte,go_sem,Nat.reduceAdd,Nat.reduceLT,Nat.reduceLeDiff,Nat.reduceEqDiff,Int.reduceLE,Int.reduceToNat,cu]
 refine ae.ok (ub [1,2,0] [1,2,0] false true H (by decide)) ?_
 simp -implicitDefEqProofs only[↓reduceIte,go_sem,Nat.reduceLT,Nat.reduceEqDiff]
 refine ae.ok (im H) ?_
 rw[e0]
 simp -implicitDefEqProofs only[↓reduceIte,go_sem,Nat.reduceLT,Nat.reduceEqDiff]
 refine an.aI ?_
 simp -implicitDefEqProofs only[↓reduceIte,go_sem,Nat.reduceLT]
def dq(p:Pj)(q:Qu):Bool:= !(q.bY.any fun c=> !decide (c∈p.aC))&& !(q.pred.any fun a=> !decide (a.dN∈p.aC))
abbrev pB(p:Pj):ay:= .box 36 4 0 1 (p.ds.map .d)
abbrev qB(q:Qu):ay:= .box 30 8 0 1 (q.ds.map .d)
theorem ma(p:Pj)(hp:p.aC.length≤1000000000)(c:Int)(i:Nat)(H:aa)(hi:H[i]?=some (pB p)):ag Tryz.prog 63 [iA c,.ptr i 0 0 0] H (.ok (bA (!decide (c∈p.aC)))) H:=by
 refine ag.ai (hint:=(fun _=>false)) Tryz.func63 (by kernel_rfl) rfl [3] (by kernel_rfl) (by decide) (by simp[Tryz.ntmps63]) ?_
 rw[Tryz.ntmps63]
 simp -implicitDefEqProofs only[↓reduceIte,go_sem,ab,Nat.reduceAdd,Nat.reduceLT,Nat.reduceLeDiff,Nat.reduceEqDiff,reduceCtorEq,hi,Pj.ds]
 refine ae.ok (ez p.aC c false _ (by omega)) ?_
 simp -implicitDefEqProofs only[↓reduceIte,go_sem,Nat.reduceLT]
 refine an.aI ?_
 simp -implicitDefEqProofs only[↓reduceIte,go_sem,Nat.reduceLT]
theorem tx(p:Pj)(hp:p.aC.length≤1000000000)(a:Atom)(i j:Nat)(H:aa)(hi:H[i]?=some (pB p))(hj:H[j]?=some (.box 132 1 0 1 [.fn 63 [.ptr i 0 0 0]])):
  ag Tryz.prog 67 [a.av,.ptr j 0 0 0] H (.ok (bA (!decide (a.dN∈p.aC)))) H:=by
 have hj2:=fun T=>qt hj T
 refine ag.ai (hint:=(fun _=>false)) Tryz.func67 (by kernel_rfl) rfl [3] (by kernel_rfl) (by decide) (by simp[Tryz.ntmps67]) ?_
 rw[Tryz.ntmps67]
 simp -implicitDefEqProofs only[↓reduceIte,go_sem,ab,Nat.reduceAdd,Nat.reduceLT,Nat.reduceLeDiff,Nat.reduceEqDiff,hj2]
 refine ae.ok (ma p hp a.dN i _ (qt hi _)) ?_
 simp -implicitDefEqProofs only[↓reduceIte,go_sem,Nat.reduceLT]
 refine an.ret ?_
 simp -implicitDefEqProofs only[↓reduceIte,go_sem,Nat.reduceLT]
theorem nN(p:Pj)(hp:p.aC.length≤1000000000)(q:Qu)(hq:q.Ok)(H:aa):ag Tryz.prog 30 [p.av,q.av] H (.ok (bA (dq p q))) H:=by
 have hn:=fun H=>kX q hq H
 have hnl:=q.jm hq
 have hpl:=hq.pred
 unfold dq
 have h1:=fun(n1:Bool) G (hg:G[H.length]?=some (pB p))=>fp q.bY (fun c=> !decide (c∈p.aC)) 63 [.ptr H.length 0 0 0] n1 G (by omega) fun c _=>ma p hp c _ _ hg
 have h2:=fun(n1:Bool) G (hg:G[H.length]?=some (pB p)) (hg2:G[H.length+2]?=some (.box 132 1 0 1 [.fn 63 [.ptr H.length 0 0 0]]))=>fO q.pred (fun a=> !decide (a.dN∈p.aC)) 67 [.ptr (H.length+2) 0 0 0] n1 G (by omega) fun a _=>tx p hp a H.length _ _ hg hg2
 generalize (q.bY.any fun c=> !decide (c∈p.aC))=b1 at*
 generalize (q.pred.any fun a=> !decide (a.dN∈p.aC))=b2 at*
 refine ag.ai (hint:=(fun _=>false)) Tryz.func30 (by kernel_rfl) rfl [4] (by kernel_rfl) (by decide) (by simp[Tryz.ntmps30]) ?_
 rw[Tryz.ntmps30]
 simp -implicitDefEqProofs only[↓reduceIte,go_sem,aq,Nat.reduceAdd,Nat.reduceLT,Nat.reduceEqDiff,Pj.av,Pj.ds,Qu.av,Qu.ds]
 refine aF K.mixed (by kernel_rfl) ?_
 simp -implicitDefEqProofs only[↓reduceIte,go_sem,ab,Nat.reduceAdd,Nat.reduceLT,Nat.reduceEqDiff]
 refine ae.ok (hn _) ?_
 simp -implicitDefEqProofs only[↓reduceIte,go_sem,ab,Nat.reduceLT,Nat.reduceEqDiff]
 refine ae.ok (h1 _ _ (by simp[Pj.ds])) ?_
 cases b1
 case' false=>
  simp -implicitDefEqProofs only[↓reduceIte,go_sem,ab,Nat.reduceAdd,Nat.reduceLT,Nat.reduceLeDiff,Nat.reduceEqDiff]
  refine ae.ok (h2 _ _ (by simp[Pj.ds]) (by simp)) ?_
 all_goals
  simp -implicitDefEqProofs only[↓reduceIte,go_sem,Nat.reduceLT,Nat.reduceEqDiff,reduceCtorEq]
  refine an.ret ?_
  simp -implicitDefEqProofs only[↓reduceIte,go_sem,Nat.reduceLT]<;>simp
structure Fl where
 kinds:List Int
 projs:List Pj
def Fl.ds(f:Fl):List D:=[.list false (ints f.kinds),.list false (f.projs.map Pj.ds)]
def Fl.av(f:Fl):AV:= .agg (f.ds.map .d)
abbrev fB(f:Fl):ay:= .box 57 2 0 1 (f.ds.map .d)
structure Fl.Ok (f:Fl):Prop where
 len:f.projs.length≤1000000
 all:∀p∈f.projs,p.Ok
def cJ(q:Qu):List Bool:=if 0<q.aE.length then[false,true]else[false]
abbrev rB(q:Qu):ay:= .box 111 1 0 1 [.d (.list false ((cJ q).map fun b=>[.v (.bool b)]))]
theorem kT(f:Fl)(q:Qu)(hq:q.Ok)(H:aa):∃v,ag Tryz.prog 60 [f.av,q.av] H (.ok (.fn 109 [.ptr H.length 0 0 0,.ptr (H.length+1) 0 0 0,.ptr (H.length+3) 0 0 0])) (H++[fB f,qB q,.arr 4 1 v [],rB q]):=by
 have hjl:=hq.aE
 by_cases hj:0<(q.aE.length:Int)
 ·refine⟨2,?_⟩
  have hr:cJ q=[false,true]:=if_pos (by omega)
  unfold rB
  rw[hr]
  refine ag.ai (hint:=(fun t=>t==6||t==1000004)) Tryz.func60 (by kernel_rfl) rfl [4] (by kernel_rfl) (by decide) (by simp[Tryz.ntmps60]) ?_
  rw[Tryz.ntmps60]
  simp -implicitDefEqProofs only[↓reduceIte,go_sem,ab,aq,Nat.reduceAdd,Nat.reduceLT,Nat.reduceLeDiff,Nat.reduceEqDiff,Nat.reduceBEq,Fl.av,Fl.ds,Qu.av,Qu.ds,List.length_map,hj]
  refine⟨_,_,ak.kF _ _ (H.length+3) 1 0 1 0 (H.length+2) 1 0 2 1 111 4 [.sl (H.length+2) 1 0 2] [[.v (.bool false)],[.v (.bool true)]] (by simp -implicitDefEqProofs only[go_sem]) rfl (by simp -implicitDefEqProofs only[go_sem]),?_⟩
  simp -implicitDefEqProofs only[go_sem,Nat.reduceAdd]
  exact⟨_,ak.refl _ _,rfl⟩
 ·refine⟨1,?_⟩
  have hr:cJ q=[false]:=if_neg (by omega)
  unfold rB
  rw[hr]
  refine ag.ai (hint:=(fun t=>t==6||t==1000004)) Tryz.func60 (by kernel_rfl) rfl [4] (by kernel_rfl) (by decide) (by simp[Tryz.ntmps60]) ?_
  rw[Tryz.ntmps60]
  simp -implicitDefEqProofs only[↓reduceIte,go_sem,ab,aq,Nat.reduceAdd,Nat.reduceLT,Nat.reduceLeDiff,Nat.reduceEqDiff,Nat.reduceBEq,Fl.av,Fl.ds,Qu.av,Qu.ds,List.length_map,hj]
  refine⟨_,_,ak.kF _ _ (H.length+3) 1 0 1 0 (H.length+2) 0 0 1 1 111 4 [.sl (H.length+2) 0 0 1] [[.v (.bool false)]] (by simp -implicitDefEqProofs only[go_sem]) rfl (by simp -implicitDefEqProofs only[go_sem]),?_⟩
  simp -implicitDefEqProofs only[go_sem]
  exact⟨_,ak.refl _ _,rfl⟩
theorem CM{b c:Nat}{d:D}(hc:0<c)(h:Fits (.slice b [.slice c ug]) d):∃R:List (List al),d= .list false (bU R)∧R.length* b≤140737488351232∧∀r∈R,r.length* c≤140737488351232∧∀v∈r,v.Ok:=by
 obtain⟨l,rfl,h1,h2⟩:=Fits.fI h
 obtain⟨la,rfl,h3⟩:=jd (enc:=de) (p:=fun r=>r.length* c≤140737488351232∧∀v∈r,v.Ok) fun e he=>by
  obtain⟨x,xs,rfl,hx,h⟩:=aX.cons_inv (h2 e he)
  cases aX.iV h
  obtain⟨r,rfl,hl,hr⟩:=CJ hx
  exact⟨r,rfl,hl,hr⟩
 exact⟨la,rfl,by simpa using h1,h3⟩
structure rY (R:List (List al)):Prop where
 len:R.length≤100000000000000
 row:∀r∈R,r.length≤100000000000000
 val:∀r∈R,∀v∈r,v.Ok
theorem og{d:D}(h:Fits (.slice 24 [.slice 32 ug]) d):∃R:List (List al),d= .list false (bU R)∧rY R:=by
 obtain⟨R,rfl,hl,hn⟩:=CM (by decide) h
 exact⟨R,rfl,by omega,fun r hr=>by have:=(hn r hr).1;omega,fun r hr=>(hn r hr).2⟩
structure iO where
 rows:List (List al)
 kinds:List Int
 c0:List Int
 c1:List Int
 k0:List Int
 k1:List Int
def iO.ds(t:iO):List D:=[.list false (bU t.rows),.list false (ints t.kinds),.list false (ints t.c0),.list false (ints t.c1),.list false (ints t.k0),.list false (ints t.k1)]
def iO.av(t:iO):AV:= .agg (t.ds.map .d)
structure iO.Ok (t:iO):Prop where
 rows:rY t.rows
 kinds:t.kinds.length≤100000000000000
def nW(R:List (List al))(ks c y:List Int):List Pj:=if 20<c.length∨20<y.length then[]else if(gG R ks c y 0).2=0 then[(gG R ks c y 0).1]else[]
def mH(ks:List Int):List Int:=upto (min ks.length 9)
def dt(t:iO)(k:Nat):List Pj:=(gG t.rows t.kinds (mH t.kinds) [] 0).1::((if 0<k then nW t.rows t.kinds t.c0 t.k0 else[])++(if 1<k then nW t.rows t.kinds t.c1 t.k1 else[]))
def pf(t:iO):Fl×Bool:=if c7 300 20000 t.rows=true∧(gG t.rows t.kinds (mH t.kinds) [] 0).2=0 then(⟨t.kinds,dt t 2⟩,true)else(⟨[],[]⟩,false)
theorem tR(R:List (List al))(ks c y:List Int):(nW R ks c y).length≤1:=by unfold nW;split<;>(try split)<;>simp
theorem kj(t:iO)(k:Nat):(dt t k).length≤3:=by
 have h1:=tR t.rows t.kinds t.c0 t.k0
 have h2:=tR t.rows t.kinds t.c1 t.k1
 unfold dt
 split<;>split<;>simp<;>omega
theorem zx:Sub (.agg [.d (.v (.slice none 0 0)),.d (.v (.slice none 0 0))]) (Fl.av ⟨[],[]⟩):= .agg (.cons .nil (.cons .nil .nil))
theorem Av(t:iO)(ht:t.Ok)(H:aa):ag Tryz.prog 22 [t.av] H (.ok (.a7 [(pf t).1.av,bA (pf t).2])) H:=by
 have hfw:=fun H=>xi t.rows false ht.rows.len ht.rows.row (fun r hr v hv=>(ht.rows.val r hr v hv).s) H
 have hmk:=fun(hf:c7 300 20000 t.rows=true) c y (hc:c.length≤20) (hy:y.length≤20) H=>wq t.rows t.kinds c y 0 false false false false H (by have:=(lK hf).1;omega) (fun r hr=>by have:=(lK hf).2 r hr;omega) ht.kinds (by omega) (by omega) (fun r hr v hv=>(ht.rows.val r hr v hv).i)
 have hkl:=ht.kinds
 have hP0:dt t 0=[(gG t.rows t.kinds (mH t.kinds) [] 0).1]:=rfl
 have hP1:dt t 1=dt t 0++nW t.rows t.kinds t.c0 t.k0:=by simp[dt]
 have hP2:dt t 2=dt t 1++nW t.rows t.kinds t.c1 t.k1:=by simp[dt]
 have hPl:=kj t
 have hal:(mH t.kinds).length=min t.kinds.length 9:=eD _
 have hae:mH t.kinds=upto (min t.kinds.length 9):=rfl
 unfold pf
 generalize dt t=P at*
 obtain⟨R,ks,c0,c1,k0,k1⟩:=t
 simp only at*
 by_cases hf:c7 300 20000 R=true
 case neg=>
  rw[if_neg (fun h=>hf h.1)]
  rw[show c7 300 20000 R=false by simpa using hf]at hfw
  refine ag.kf (cs:=[.agg [.d (.v (.slice none 0 0)),.d (.v (.slice none 0 0))],bA false]) ?_ (.cons zx (.cons (.refl _) .nil))
  refine ag.cA (hint:=fun t=>t==1000008) Tryz.func22 (by kernel_rfl) rfl [.cell 2 57,.tmp 3] (by kernel_rfl) (by simp[Tryz.ntmps22]) ?_
  rw[Tryz.ntmps22]
  simp -implicitDefEqProofs only[↓reduceIte,go_sem,ab,Nat.reduceAdd,Nat.reduceLT,Nat.reduceLeDiff,Nat.reduceEqDiff,Nat.reduceBEq,iO.av,iO.ds]
  refine ae.ok (hfw _) ?_
  simp -implicitDefEqProofs only[↓reduceIte,go_sem,aq,Nat.reduceAdd,Nat.reduceLT,Nat.reduceEqDiff]
  refine cV.ret ?_
  simp -implicitDefEqProofs only[↓reduceIte,go_sem,ab,Nat.reduceAdd,Nat.reduceLT,Nat.reduceLeDiff,Nat.reduceEqDiff,bH,cX]
 have hmk:=hmk hf
 rw[hf]at hfw⊢
 simp only[true_and]
 have hm0:=fun H=>hmk (mH ks) [] (by omega) (by simp) H
 generalize hm:gG R ks (mH ks) [] 0=mk at*
 suffices hh:ag Tryz.prog 22 [.agg [.d (.list false (bU R)),.d (.list false (ints ks)),.d (.list false (ints c0)),.d (.list false (ints c1)),.d (.list false (ints k0)),.d (.list false (ints k1))]] H (.ok (if mk.2=0 then .a7 [Fl.av ⟨ks,P 2⟩,bA true]else .a7 [.agg [.d (.v (.slice none 0 0)),.d (.v (.slice none 0 0))],bA false])) H by
  by_cases h:mk.2=0
  ·rw[if_pos h]at hh⊢;exact hh
  ·rw[if_neg h]at hh⊢;exact hh.kf (.cons zx (.cons (.refl _) .nil))
 refine ag.cA (hint:=fun t=>t==1000008||t==1000012||t==1000017||t==10||t==1000020) Tryz.func22 (by kernel_rfl) rfl [.cell 2 57,.tmp 3] (by kernel_rfl) (by simp[Tryz.ntmps22]) ?_
 rw[Tryz.ntmps22]
 simp -implicitDefEqProofs only[↓reduceIte,go_sem,ab,Nat.reduceAdd,Nat.reduceLT,Nat.reduceLeDiff,Nat.reduceEqDiff,Nat.reduceBEq]
 refine ae.ok (hfw _) ?_
 simp -implicitDefEqProofs only[↓reduceIte,go_sem,Nat.reduceAdd,Nat.reduceLT,Nat.reduceBEq]
 obtain⟨tb,htb⟩:∃tb,tb=ay.box 54 6 0 1 [.d (.list false (bU R)),.d (.list false (ints ks)),.d (.list false (ints c0)),.d (.list false (ints c1)),.d (.list false (ints k0)),.d (.list false (ints k1))]:=⟨_,rfl⟩
 have hb:∀m,tb.below m=true:=by intro m;subst htb;simp -implicitDefEqProofs only[go_sem]
 rw[←htb]
 refine aA (fun k s H'=>H'=H++[tb,.box 57 2 0 1 [.d (.v (.slice none 0 0)),.d (.v (.slice none 0 0))],.arr 3 1 k (ints (upto k))]∧s 1= .ptr H.length 0 0 0∧s 2= .ptr (H.length+1) 0 0 0∧s 4= .sl (H.length+2) k 0 k∧s 5=iA k) (min ks.length 9) (by omega) (ak.eg _ _ 4 3 1 (by decide) (by simp -implicitDefEqProofs only[↓reduceIte,go_sem,Nat.reduceLT,Nat.reduceEqDiff]) _) ?_ ?_ ?_
 ·refine⟨?_,?_⟩
  ·simp -implicitDefEqProofs only[go_sem,show ints (upto 0)=[]from rfl]
  ·simp -implicitDefEqProofs only[↓reduceIte,go_sem,Nat.reduceAdd,Nat.reduceLT,Nat.reduceEqDiff]
 ·rintro k s H' hk hw ⟨rfl,t1,t2,t4,t5⟩
  have e1:ints (upto (k+1))=ints (upto k)++[[.v (.int .i64 (k:Int))]]:=by rw[iv,←c8]
  have e2:(ints (upto k)).length=k:=by rw[ao,eD]
  rw[e1]
  generalize ints (upto k)=U at*
  simp -implicitDefEqProofs only[↓reduceIte,go_sem,ab,Nat.reduceAdd,Nat.reduceLT,Nat.reduceLeDiff,Nat.reduceEqDiff,Nat.reduceBEq,t1,t5,htb,ao,show k<ks.length by omega,show(k:Int)<9 by omega,t4,e2]
  rw[←htb]
  refine⟨by omega,by omega,cl.same ⟨rfl,?_⟩⟩
  simp -implicitDefEqProofs only[↓reduceIte,go_sem,Nat.reduceLT,Nat.reduceEqDiff,t1,t2,hw]
 rintro s H' ⟨rfl,t1,t2,t4,t5⟩
 rw[←hae]
 have hai:(ints (mH ks)).take (mH ks).length=ints (mH ks):=List.take_of_length_le (by rw[ao];omega)
 rw[←hal]at t4 t5⊢
 generalize mH ks=A at*
 by_cases h9:A.length<ks.length
 case' pos=>simp -implicitDefEqProofs only[↓reduceIte,go_sem,ab,Nat.reduceAdd,Nat.reduceLT,Nat.reduceLeDiff,Nat.reduceEqDiff,Nat.reduceBEq,t1,t5,htb,ao,h9,show ¬(A.length:Int)<9 by omega]
 case' neg=>simp -implicitDefEqProofs only[↓reduceIte,go_sem,ab,Nat.reduceAdd,Nat.reduceLT,Nat.reduceLeDiff,Nat.reduceEqDiff,Nat.reduceBEq,reduceCtorEq,t1,t5,htb,ao,h9]
 all_goals
  refine⟨_,_,ak.cut [_,_] [_] 2 rfl _ (by simp -implicitDefEqProofs only[go_sem]),?_⟩
  simp -implicitDefEqProofs only[↓reduceIte,go_sem,ab,aq,Nat.reduceAdd,Nat.reduceLT,Nat.reduceLeDiff,Nat.reduceEqDiff,Nat.reduceBEq,t1,t4,hai]
  refine ae.sub (.cons (.refl _) (.cons (.refl _) (.cons (.refl _) (.cons .nil (.cons (.refl _) .nil))))) (hm0 _) ?_
  obtain⟨⟨p1,p2,p3,p4⟩,e⟩:=mk
  by_cases he:e=0
  case neg=>
   rw[if_neg he]
   simp -implicitDefEqProofs only[↓reduceIte,go_sem,aq,Nat.reduceAdd,Nat.reduceLT,Nat.reduceEqDiff,Nat.reduceBEq,Pj.av,Pj.ds,he,t2]
   refine cV.ret ?_
   simp -implicitDefEqProofs only[↓reduceIte,go_sem,ab,Nat.reduceAdd,Nat.reduceLT,Nat.reduceLeDiff,Nat.reduceEqDiff,bH,cX,t2]
  rw[if_pos he]
  subst he
  simp -implicitDefEqProofs only[↓reduceIte,go_sem,aq,Nat.reduceAdd,Nat.reduceLT,Nat.reduceEqDiff,Nat.reduceBEq,Pj.av,Pj.ds]
  refine⟨_,_,ak.df _ _ (H.length+2) 57 2 0 1 [.d (.list false (ints ks)),.d (.v (.slice none 0 0))] 1 _ 36 4 (by decide) (by simp -implicitDefEqProofs only[go_sem]) rfl rfl,?_⟩
  simp -implicitDefEqProofs only[↓reduceIte,go_sem,ab,aq,Nat.reduceAdd,Nat.reduceLT,Nat.reduceLeDiff,Nat.reduceEqDiff,Nat.reduceBEq]
  refine aA (fun k s H'=>H'=H++[.box 54 6 0 1 [.d (.list false (bU R)),.d (.list false (ints ks)),.d (.list false (ints c0)),.d (.list false (ints c1)),.d (.list false (ints k0)),.d (.list false (ints k1))],.box 57 2 0 1 [.d (.v (.slice none 0 0)),.d (.v (.slice none 0 0))],.box 57 2 0 1 [.d (.list false (ints ks)),.sl (H.length+4) (P k).length 0 (P k).length],.box 36 4 0 1 [.d (.list false (ints p1)),.d (.list false (ints p2)),iA p3,.d (.list false (bg p4))],.arr 36 4 (P k).length ((P k).map Pj.ds)]∧s 1= .ptr H.length 0 0 0∧s 2= .ptr (H.length+1) 0 0 0∧s 6= .ptr (H.length+2) 0 0 0∧s 9=iA k) 2 (by omega) (ak.refl _ _) ?_ ?_ ?_
  ·refine⟨?_,?_⟩
   ·rw[hP0]
    simp -implicitDefEqProofs only[go_sem,Pj.ds]
   ·simp -implicitDefEqProofs only[↓reduceIte,go_sem,Nat.reduceLT,Nat.reduceEqDiff,t1,t2]
  ·rintro k s H' hk hw ⟨rfl,t1,t2,t6,t9⟩
   have hPs:∃c y,P (k+1)=P k++nW R ks c y∧((k=0∧c0=c∧k0=y)∨(k=1∧c1=c∧k1=y)):=by
    rcases(show k=0∨k=1 by omega)with rfl|rfl
    ·exact⟨c0,k0,hP1,.inl ⟨rfl,rfl,rfl⟩⟩
    ·exact⟨c1,k1,hP2,.inr ⟨rfl,rfl,rfl⟩⟩
   obtain⟨c,y,hPs,hk2⟩:=hPs
   have hPk:=hPl k
   have hml:((P k).map Pj.ds).length=(P k).length:=by simp
   clear hP0 hP1 hP2 hPl
   generalize P k=Pk at*
   generalize P (k+1)=Pn at*
   unfold nW at hPs
   have w1:IntKind.i64.wrap 1=1:=by decide
   have w2:IntKind.i64.wrap 2=2:=by decide
   by_cases hc:20<(c.length:Int)
   ·rw[if_pos (.inl (by omega)),List.append_nil]at hPs
    rcases hk2 with⟨rfl,rfl,rfl⟩|⟨rfl,rfl,rfl⟩
    all_goals
     simp -implicitDefEqProofs only[↓reduceIte,go_sem,ab,Nat.reduceAdd,Nat.reduceLT,Nat.reduceLeDiff,Nat.reduceEqDiff,Nat.reduceBEq,Int.reduceLE,Int.reduceLT,Int.reduceAdd,Int.reduceToNat,t1,t9,ao,hc]
     refine cl.same ⟨by rw[hPs],?_⟩
     simp -implicitDefEqProofs only[↓reduceIte,go_sem,Nat.reduceLT,Nat.reduceEqDiff,t1,t2,t6,w1,w2]
   by_cases hy:20<(y.length:Int)
   ·rw[if_pos (.inr (by omega)),List.append_nil]at hPs
    rcases hk2 with⟨rfl,rfl,rfl⟩|⟨rfl,rfl,rfl⟩
    all_goals
     simp -implicitDefEqProofs only[↓reduceIte,go_sem,ab,Nat.reduceAdd,Nat.reduceLT,Nat.reduceLeDiff,Nat.reduceEqDiff,Nat.reduceBEq,Int.reduceLE,Int.reduceLT,Int.reduceAdd,Int.reduceToNat,reduceCtorEq,t1,t9,ao,hc,hy]
     refine cl.same ⟨by rw[hPs],?_⟩
     simp -implicitDefEqProofs only[↓reduceIte,go_sem,Nat.reduceLT,Nat.reduceEqDiff,t1,t2,t6,w1,w2]
   rw[if_neg (by omega)]at hPs
   have hmq:=fun H=>hmk c y (by omega) (by omega) H
   generalize gG R ks c y 0=mq at*
   obtain⟨⟨q1,q2,q3,q4⟩,g⟩:=mq
   have hti:TI Tryz.prog 36=some ((.agg #[.slice none 0 0,.slice none 0 0,.int .i64 0,.slice none 0 0]:Value),4,80):=by kernel_rfl
   rcases hk2 with⟨rfl,rfl,rfl⟩|⟨rfl,rfl,rfl⟩
   all_goals
    simp -implicitDefEqProofs only[↓reduceIte,go_sem,ab,Nat.reduceAdd,Nat.reduceLT,Nat.reduceLeDiff,Nat.reduceEqDiff,Nat.reduceBEq,Int.reduceLE,Int.reduceLT,Int.reduceToNat,reduceCtorEq,t1,t9,ao,hc,hy]
    refine⟨_,_,ak.more _ _ 36 4 (by decide),?_⟩
    simp -implicitDefEqProofs only[go_sem]
    refine rr [none,none,none,none,some false,none,none,none,some false,none,none,none,some true,some false,some false,some false,some true,some true,some false] 16 (H.length+5) (.box 36 4 1 1 fW) (H++[.box 54 6 0 1 [.d (.list false (bU R)),.d (.list false (ints ks)),.d (.list false (ints c0)),.d (.list false (ints c1)),.d (.list false (ints k0)),.d (.list false (ints k1))],.box 57 2 0 1 [.d (.v (.slice none 0 0)),.d (.v (.slice none 0 0))],.box 57 2 0 1 [.d (.list false (ints ks)),.sl (H.length+4) Pk.length 0 Pk.length],.box 36 4 0 1 [.d (.list false (ints p1)),.d (.list false (ints p2)),iA p3,.d (.list false (bg p4))],.arr 36 4 Pk.length (Pk.map Pj.ds)]) K.mixed (by kernel_rfl) (by kernel_rfl) (by kernel_rfl) (AS _ [_,_,_,_,_] [_]) (by intro o ho;simp at ho) ?_
    simp -implicitDefEqProofs only[↓reduceIte,go_sem,ab,Nat.reduceAdd,Nat.reduceLT,Nat.reduceLeDiff,Nat.reduceEqDiff,Int.reduceLE,Int.reduceLT,Int.reduceToNat,reduceCtorEq,t1,t9]
    refine ae.ok (hmq _) ?_
    simp -implicitDefEqProofs only[↓reduceIte,go_sem,Nat.reduceAdd,Nat.reduceLT,Nat.reduceEqDiff]
    refine ae.ok (hmq _) ?_
    simp -implicitDefEqProofs only[↓reduceIte,go_sem,aq,Nat.reduceAdd,Nat.reduceLT,Nat.reduceEqDiff,Pj.av,Pj.ds]
    refine⟨AS _ [_,_,_,_,_] [_],⟨_,_,_,_,36,rfl,rfl,hti,⟨by decide,by kernel_rfl,by kernel_rfl⟩,rfl,rfl,by simp -implicitDefEqProofs only[go_sem]⟩,?_⟩
    simp -implicitDefEqProofs only[↓reduceIte,go_sem,Nat.reduceAdd,Nat.reduceLT,Nat.reduceEqDiff,Nat.reduceBEq,fW]
    refine⟨AS _ [_,_,_,_,_] [_],?_⟩
    by_cases hg:g=0
    ·rw[if_pos hg]at hPs
     subst hg
     simp -implicitDefEqProofs only[↓reduceIte,go_sem,ab,aq,Nat.reduceAdd,Nat.reduceLT,Nat.reduceLeDiff,Nat.reduceEqDiff,Nat.reduceBEq,Int.reduceAdd,t6,t9,hml]
     refine⟨by omega,by omega,?_⟩
     refine cl.cut [.box 54 6 0 1 [.d (.list false (bU R)),.d (.list false (ints ks)),.d (.list false (ints c0)),.d (.list false (ints c1)),.d (.list false (ints k0)),.d (.list false (ints k1))],.box 57 2 0 1 [.d (.v (.slice none 0 0)),.d (.v (.slice none 0 0))],.box 57 2 0 1 [.d (.list false (ints ks)),.sl (H.length+4) (Pk.length+1) 0 (Pk.length+1)],.box 36 4 0 1 [.d (.list false (ints p1)),.d (.list false (ints p2)),iA p3,.d (.list false (bg p4))],.arr 36 4 (Pk.length+1) (Pk.map Pj.ds++[[.list false (ints q1),.list false (ints q2),iD q3,.list false (bg q4)]])] _ 5 rfl rfl ?_ ?_
     ·simp -implicitDefEqProofs only[go_sem,Nat.reduceLT]
     refine⟨by rw[hPs];simp[Pj.ds],?_⟩
     simp -implicitDefEqProofs only[↓reduceIte,go_sem,Nat.reduceLT,Nat.reduceEqDiff,t1,t2,t6,w1,w2]
    ·rw[if_neg hg,List.append_nil]at hPs
     simp -implicitDefEqProofs only[↓reduceIte,go_sem,Nat.reduceAdd,Nat.reduceLT,Nat.reduceEqDiff,Nat.reduceBEq,Int.reduceAdd,hg,t9]
     refine cl.cut [.box 54 6 0 1 [.d (.list false (bU R)),.d (.list false (ints ks)),.d (.list false (ints c0)),.d (.list false (ints c1)),.d (.list false (ints k0)),.d (.list false (ints k1))],.box 57 2 0 1 [.d (.v (.slice none 0 0)),.d (.v (.slice none 0 0))],.box 57 2 0 1 [.d (.list false (ints ks)),.sl (H.length+4) Pk.length 0 Pk.length],.box 36 4 0 1 [.d (.list false (ints p1)),.d (.list false (ints p2)),iA p3,.d (.list false (bg p4))],.arr 36 4 Pk.length (Pk.map Pj.ds)] _ 5 rfl rfl ?_ ?_
     ·simp -implicitDefEqProofs only[go_sem,Nat.reduceLT]
     refine⟨by rw[hPs],?_⟩
     simp -implicitDefEqProofs only[↓reduceIte,go_sem,Nat.reduceLT,Nat.reduceEqDiff,t1,t2,t6,w1,w2]
  ·rintro s H' ⟨rfl,t1,t2,t6,t9⟩
   have hPl2:=hPl 2
   have hmt:((P 2).map Pj.ds).length=(P 2).length:=by simp
   generalize P 2=P2 at*
   simp -implicitDefEqProofs only[↓reduceIte,go_sem,Nat.reduceAdd,Nat.reduceLT,Nat.reduceBEq,Int.reduceLT,t9]
   refine⟨_,_,ak.kF _ _ (H.length+2) 2 0 1 1 (H.length+4) P2.length 0 P2.length 4 57 36 [.d (.list false (ints ks)),.sl (H.length+4) P2.length 0 P2.length] (P2.map Pj.ds) (by simp -implicitDefEqProofs only[go_sem]) rfl (by simp -implicitDefEqProofs only[go_sem]),?_⟩
   simp -implicitDefEqProofs only[↓reduceIte,go_sem,ab,aq,Nat.reduceAdd,Nat.reduceLT,Nat.reduceEqDiff,t6,t2,List.take_of_length_le (Nat.le_of_eq hmt)]
   refine cV.ret ?_
   simp -implicitDefEqProofs only[↓reduceIte,go_sem,ab,Nat.reduceAdd,Nat.reduceLT,Nat.reduceLeDiff,Nat.reduceEqDiff,bH,cX,t2,Fl.av,Fl.ds]
theorem m9{t:iO}(h:(pf t).2=true):(pf t).1=⟨t.kinds,dt t 2⟩∧c7 300 20000 t.rows=true∧(gG t.rows t.kinds (mH t.kinds) [] 0).2=0:=by
 unfold pf at h⊢
 split
 ·rename_i h1;exact⟨rfl,h1⟩
 ·rename_i h1;rw[if_neg h1]at h;cases h
theorem EP{R:List (List al)}{ks c y:List Int}{p:Pj}(h:p∈nW R ks c y):p.Ok:=by
 unfold nW at h
 split at h
 ·cases h
 ·split at h
  ·rw[List.mem_singleton.1 h]
   rename_i h1 h2
   exact(iP h2).ok (by omega)
  ·cases h
theorem EH{t:iO}(h:(pf t).2=true):(pf t).1.Ok:=by
 obtain⟨h1,h2,h3⟩:=m9 h
 rw[h1]
 refine⟨by have:=kj t 2;simp only;omega,fun p hp=>?_⟩
 simp only[dt]at hp
 rcases List.mem_cons.1 hp with rfl|hp
 ·exact(iP h3).ok (by rw[mH,eD];omega)
 ·simp only[Nat.lt_add_one,if_true,show 0<2 by omega,List.mem_append]at hp
  rcases hp with hp|hp<;>exact EP hp
theorem HF{x:AV}(h:lL Tryz.prog 30 x):∃q:Qu,x=q.av:=by
 obtain⟨ds,rfl,hf⟩:=zw h K.Fb (shs:=[.int .i64,.slice 48 tt,.slice 48 [.int .i64,.int .i64,.int .i64,.slice 48 tt],.slice 8 [.int .i64],.bool,.slice 16 [.int .i64,.int .i64],.slice 8 [.int .i64],.int .i64]) (by kernel_rfl)
 obtain⟨x0,_,rfl,h0,h⟩:=aX.cons_inv hf
 obtain⟨x1,_,rfl,h1,h⟩:=aX.cons_inv h
 obtain⟨x2,_,rfl,h2,h⟩:=aX.cons_inv h
 obtain⟨x3,_,rfl,h3,h⟩:=aX.cons_inv h
 obtain⟨x4,_,rfl,h4,h⟩:=aX.cons_inv h
 obtain⟨x5,_,rfl,h5,h⟩:=aX.cons_inv h
 obtain⟨x6,_,rfl,h6,h⟩:=aX.cons_inv h
 obtain⟨x7,_,rfl,h7,h⟩:=aX.cons_inv h
 cases aX.iV h
 obtain⟨pred,rfl,_,_⟩:=AJ h1
 obtain⟨aC,rfl,_,_⟩:=iE h3
 obtain⟨l2,rfl,_,g2⟩:=Fits.fI h2
 obtain⟨l5,rfl,_,g5⟩:=Fits.fI h5
 obtain⟨aE,rfl,_⟩:=jd (enc:=ig) (p:=fun _=>True) fun e he=>by
  obtain⟨a,_,rfl,ha,h⟩:=aX.cons_inv (g2 e he)
  obtain⟨b,_,rfl,_,h⟩:=aX.cons_inv h
  obtain⟨c,_,rfl,_,h⟩:=aX.cons_inv h
  obtain⟨d,_,rfl,_,h⟩:=aX.cons_inv h
  cases aX.iV h
  obtain⟨n,rfl,_⟩:=Fits.gK ha
  exact⟨(n,b,c,d),rfl,trivial⟩
 obtain⟨bF,rfl,_⟩:=jd (enc:=gR) (p:=fun _=>True) fun e he=>by
  obtain⟨a,_,rfl,ha,h⟩:=aX.cons_inv (g5 e he)
  obtain⟨b,_,rfl,hb,h⟩:=aX.cons_inv h
  cases aX.iV h
  obtain⟨n,rfl,_⟩:=Fits.gK ha
  obtain⟨m,rfl,_⟩:=Fits.gK hb
  exact⟨(n,m),rfl,trivial⟩
 exact⟨⟨x0,pred,aE,aC,x4,bF,x6,x7⟩,rfl⟩
theorem D6{x:AV}(h:lL Tryz.prog 54 x):∃t:iO,x=t.av∧t.Ok:=by
 obtain⟨ds,rfl,hf⟩:=zw h K.Fc (shs:=[.slice 24 [.slice 32 ug],.slice 8 [.int .i64],.slice 8 [.int .i64],.slice 8 [.int .i64],.slice 8 [.int .i64],.slice 8 [.int .i64]]) (by kernel_rfl)
 obtain⟨d0,ds,rfl,h0,hf⟩:=aX.cons_inv hf
 obtain⟨d1,ds,rfl,h1,hf⟩:=aX.cons_inv hf
 obtain⟨d2,ds,rfl,h2,hf⟩:=aX.cons_inv hf
 obtain⟨d3,ds,rfl,h3,hf⟩:=aX.cons_inv hf
 obtain⟨d4,ds,rfl,h4,hf⟩:=aX.cons_inv hf
 obtain⟨d5,ds,rfl,h5,hf⟩:=aX.cons_inv hf
 cases aX.iV hf
 obtain⟨R,rfl,hR⟩:=og h0
 obtain⟨ks,rfl,hk,_⟩:=iE h1
 obtain⟨c0,rfl,_,_⟩:=iE h2
 obtain⟨c1,rfl,_,_⟩:=iE h3
 obtain⟨k0,rfl,_,_⟩:=iE h4
 obtain⟨k1,rfl,_,_⟩:=iE h5
 exact⟨⟨R,ks,c0,c1,k0,k1⟩,rfl,hR,by simp only;omega⟩
def bL(i:Nat)(r:Bool)(o:List Int):List Pl:=[⟨i,true,o,1,r⟩,⟨i,true,o,2,r⟩,⟨i,true,o,3,r⟩]
def dB(i:Nat)(n:Nat)(r:Bool):List Pl:=⟨i,false,upto n,0,r⟩::(bR n).flatMap (bL i r)
def iX(q:Qu)(i:Nat)(p:Pj):List Pl:=if dq p q then(cJ q).flatMap (dB i q.pred.length)else[]
def cG(f:Fl)(q:Qu)(k:Nat):List Pl:=(List.range k).flatMap fun i=>match f.projs[i]? with|some p=>iX q i p|none=>[]
def bJ(f:Fl)(q:Qu):List Pl:=cG f q f.projs.length
theorem gM(f:Fl)(q:Qu){k:Nat}(h:k<f.projs.length):cG f q (k+1)=cG f q k++iX q k f.projs[k]:=by simp[cG,List.range_succ,List.flatMap_append,h]
theorem xm(f:Fl)(q:Qu){k:Nat}(h:k<f.projs.length):∃t,bJ f q=cG f q k++(iX q k f.projs[k]++t):=by
 have:∀n,∃t,cG f q (k+1+n)=cG f q (k+1)++t:=fun n=>by
  induction n with
  |zero=>exact⟨[],by simp⟩
  |succ n ih=>
   obtain⟨t,ht⟩:=ih
   unfold cG at ht⊢
   rw[show k+1+(n+1)=(k+1+n)+1 from rfl,List.range_succ,List.flatMap_append,ht,List.append_assoc]
   exact⟨_,rfl⟩
 obtain⟨t,ht⟩:=this (f.projs.length-(k+1))
 rw[show k+1+(f.projs.length-(k+1))=f.projs.length by omega,gM f q h,List.append_assoc]at ht
 exact⟨t,ht⟩
theorem oQ{α β:Type}(g:α→List β)(l:List α)(k:Nat)(h:k<l.length):l.flatMap g=(l.take k).flatMap g++(g l[k]++(l.drop (k+1)).flatMap g):=by
 conv=>lhs;rw[←List.take_append_drop k l,List.drop_eq_getElem_cons h,List.flatMap_append,List.flatMap_cons]
theorem jc{α β:Type}(g:α→List β)(l:List α)(k:Nat)(h:k<l.length):(l.take (k+1)).flatMap g=(l.take k).flatMap g++g l[k]:=by
 rw[List.take_succ_eq_append_getElem h,List.flatMap_append];simp
def zP(L:List Pl):List (List AV):=L.map fun p=>[p.av]
theorem Cf{L A B:List Pl}{p:Pl}(h:L=A++p::B):∃hk:A.length<(zP L).length,(zP L)[A.length]=[p.av]:=by
 subst h;exact⟨by simp[zP],by simp[zP]⟩
def km(l:List Bool):List (List D):=l.map fun b=>[.v (.bool b)]
theorem wW(l:List Bool):(km l).length=l.length:=by simp[km]
theorem wF(l:List Bool)(k:Nat)(h:k<l.length):(km l)[k]?=some [.v (.bool l[k])]:=by simp[km,h]
theorem BT(f:Fl)(hf:f.Ok)(q:Qu)(hq:q.Ok)(a b c:Nat):mz Tryz.prog 109 [.ptr a 0 0 0,.ptr b 0 0 0,.ptr c 0 0 0] (fun H=>H[a]?=some (fB f)∧H[b]?=some (qB q)∧H[c]?=some (rB q)) (zP (bJ f q)):=by
 intro r s0 J Jx m Hs h0 hsb hJ hY
 have hfl:=hf.len
 have hpl:=hq.pred
 have hrl:(cJ q).length≤2:=by unfold cJ;split<;>simp
 obtain⟨nn,hord⟩:∃nn,∀H,ag Tryz.prog 57 [iA q.pred.length] H (.ok (.d (.list nn ((bR q.pred.length).map cu)))) H:=ng q.pred.length (by omega)
 have hol:(bR q.pred.length).length≤24:=(ep q.pred.length).2.2.1
 refine oP.ai (hint:=fun t=>t==3000000) Tryz.func109 (by kernel_rfl) rfl [] (by kernel_rfl) (by decide) (by simp[Tryz.ntmps109]) ?_
 rw[Tryz.ntmps109]
 obtain⟨⟨hCa,_⟩,_,hl0⟩:=hJ 0 Hs h0
 have hxa:=fun T=>qt hCa T
 simp -implicitDefEqProofs only[↓reduceIte,go_sem,ab,Nat.reduceAdd,Nat.reduceLT,hxa,Fl.ds,List.length_map]
 refine aU (fun k s H'=>∃Hk,J (cG f q k).length Hk∧H'=Hk++[.lp r s0]∧s 0= .gq m∧s 1= .ptr a 0 0 0∧s 2= .ptr b 0 0 0∧s 3= .ptr c 0 0 0∧s 13= .d (.list false (f.projs.map Pj.ds))∧s 14=iA f.projs.length∧s 15=iA k) f.projs.length (by omega) (ak.refl _ _) ?_ ?_ ?_
 ·refine⟨Hs,h0,rfl,?_⟩
  simp -implicitDefEqProofs only[↓reduceIte,go_sem,Nat.reduceLT,Nat.reduceEqDiff,reduceCtorEq]
 ·rintro k s H' hk hw ⟨Hk,hJk,rfl,t0,t1,t2,t3,t13,t14,t15⟩
  have hx:(f.projs.map Pj.ds)[k]?=some f.projs[k].ds:=by simp[hk]
  obtain⟨⟨hCa,hCb,hCc⟩,hbk,hlk⟩:=hJ _ _ hJk
  have hia:=aj hCa
  have hib:=aj hCb
  have hic:=aj hCc
  have hxb:=fun T=>qt hCb T
  have hxc:=fun T=>(qt hCc T).trans (show some (rB q)=some (.box 111 1 0 1 [.d (.list false (km (cJ q)))])from rfl)
  have e1:=gM f q hk
  obtain⟨tl,e2⟩:=xm f q hk
  have hpo:=hf.all _ (List.getElem_mem hk)
  rw[e1]
  generalize cG f q k=done at*
  generalize f.projs[k]=p at*
  have hcv:=fun H=>nN p hpo.aC q hq H
  unfold iX at e1 e2⊢
  generalize dq p q=cv at*
  simp -implicitDefEqProofs only[↓reduceIte,go_sem,ab,aq,Nat.reduceAdd,Nat.reduceLT,Nat.reduceEqDiff,Nat.reduceBEq,t2,t13,t14,t15,hk,hx,Pj.ds,hxb,Qu.ds]
  refine ae.ok (hcv _) ?_
  cases cv with
  |false=>
   simp -implicitDefEqProofs only[↓reduceIte,go_sem,Nat.reduceAdd,Nat.reduceLT,Nat.reduceEqDiff,Nat.reduceBEq,reduceCtorEq,t15]
   refine⟨_,_,ak.iter rfl hbk hlk hl0 hsb,Hk,by simpa using hJk,rfl,?_⟩
   simp -implicitDefEqProofs only[↓reduceIte,go_sem,Nat.reduceLT,Nat.reduceEqDiff,reduceCtorEq,t0,t1,t2,t3,t13,t14,hw,Nat.lt_add_one,←hlk,Nat.lt_succ_of_lt hia,Nat.lt_succ_of_lt hib,Nat.lt_succ_of_lt hic]
  |true=>
  rw[if_pos rfl]at e2⊢
  generalize hρ:cJ q=ρ at*
  simp -implicitDefEqProofs only[↓reduceIte,go_sem,ab,Nat.reduceAdd,Nat.reduceLT,Nat.reduceEqDiff,Nat.reduceBEq,t3,hxc,wW]
  refine aU (fun j s H'=>∃Hk,J (done++(ρ.take j).flatMap (dB k q.pred.length)).length Hk∧H'=Hk++[.lp r s0]∧s 0= .gq m∧s 1= .ptr a 0 0 0∧s 2= .ptr b 0 0 0∧s 3= .ptr c 0 0 0∧s 5=iA k∧s 13= .d (.list false (f.projs.map Pj.ds))∧s 14=iA f.projs.length∧s 15=iA k∧s 24= .d (.list false (km ρ))∧s 25=iA ρ.length∧s 26=iA j) ρ.length (by omega) (ak.iter rfl hbk hlk hl0 hsb) ?_ ?_ ?_
  ·refine⟨Hk,by simpa using hJk,rfl,?_⟩
   simp -implicitDefEqProofs only[↓reduceIte,go_sem,Nat.reduceLT,Nat.reduceEqDiff,reduceCtorEq,t0,t1,t2,t3,t13,t14,t15,Nat.lt_add_one,←hlk,Nat.lt_succ_of_lt hia,Nat.lt_succ_of_lt hib,Nat.lt_succ_of_lt hic]
  ·clear hJk hCa hCb hCc hxb hxc hbk hlk hia hib hic
   rintro j s H' hj hw2 ⟨Hk,hJk,rfl,t0,t1,t2,t3,t5,t13,t14,t15,t24,t25,t26⟩
   obtain⟨⟨hCa,hCb,hCc⟩,hbk,hlk⟩:=hJ _ _ hJk
   have hxb:=fun T=>qt hCb T
   have hx:=wF ρ j hj
   have e3:=oQ (dB k q.pred.length) ρ j hj
   rw[e3]at e2
   rw[jc _ _ _ hj]
   generalize List.flatMap (dB k q.pred.length) (List.drop (j+1) ρ)=tl2 at*
   generalize hd1:done++(ρ.take j).flatMap (dB k q.pred.length)=D1 at*
   generalize ρ[j]=g at*
   have e4:bJ f q=D1++⟨k,false,upto q.pred.length,0,g⟩::((bR q.pred.length).flatMap (bL k g)++(tl2++tl)):=by rw[e2,←hd1];simp[dB]
   rw[←List.append_assoc,hd1]
   clear e2 e3 hd1
   obtain⟨hi,hxi⟩:=Cf e4
   have hYk:=fun T=>hY _ hi Hk T hJk
   rw[hxi]at hYk
   simp -implicitDefEqProofs only[↓reduceIte,go_sem,ab,Nat.reduceAdd,Nat.reduceLT,Nat.reduceLeDiff,Nat.reduceEqDiff,Nat.reduceBEq,reduceCtorEq,t0,t2,t5,t24,t25,t26,hj,hx,hxb,Qu.ds,List.length_map]
   refine ae.ok (nH q.pred.length (by omega) _) ?_
   simp -implicitDefEqProofs only[↓reduceIte,go_sem,Nat.reduceAdd,Nat.reduceLT,Nat.reduceLeDiff,Nat.reduceEqDiff]
   refine ql.ok (by exact hYk []) ?_
   intro b2 H' hb
   cases b2 with
   |false=>
    rw[if_neg (by simp)]at hb
    obtain⟨Hk',c',hjx,hbk',hlk',rfl⟩:=hb
    simp -implicitDefEqProofs only[↓reduceIte,go_sem,Nat.reduceLT]
    exact⟨_,_,ak.iter rfl hbk' hlk' hl0 hsb,rfl,.inr ⟨Hk',c',hjx,hlk',rfl⟩⟩
   |true=>
   rw[if_pos rfl]at hb
   obtain⟨Hk',hJk',rfl⟩:=hb
   clear hYk hJk hCa hCb hCc hxb hbk hlk hxi hi Hk hx
   obtain⟨⟨hCa,hCb,hCc⟩,hbk,hlk⟩:=hJ _ _ hJk'
   have hxb:=fun T=>qt hCb T
   have hia:=aj hCa
   have hib:=aj hCb
   have hic:=aj hCc
   simp -implicitDefEqProofs only[↓reduceIte,go_sem,ab,Nat.reduceAdd,Nat.reduceLT,Nat.reduceLeDiff,Nat.reduceEqDiff,Nat.reduceBEq,t2,hxb,Qu.ds,List.length_map]
   refine ae.ok (hord _) ?_
   generalize hos:bR q.pred.length=os at*
   simp -implicitDefEqProofs only[↓reduceIte,go_sem,Nat.reduceLT,List.length_map]
   refine aU (fun i s H'=>∃Hk,J (D1++⟨k,false,upto q.pred.length,0,g⟩::(os.take i).flatMap (bL k g)).length Hk∧H'=Hk++[.lp r s0]∧s 0= .gq m∧s 1= .ptr a 0 0 0∧s 2= .ptr b 0 0 0∧s 3= .ptr c 0 0 0∧s 5=iA k∧s 8=bA g∧s 13= .d (.list false (f.projs.map Pj.ds))∧s 14=iA f.projs.length∧s 15=iA k∧s 24= .d (.list false (km ρ))∧s 25=iA ρ.length∧s 26=iA j∧s 43= .d (.list nn (os.map cu))∧s 44=iA os.length∧s 45=iA i) os.length (by omega) (ak.iter rfl hbk hlk hl0 hsb) ?_ ?_ ?_
   ·refine⟨Hk',by simpa using hJk',rfl,?_⟩
    simp -implicitDefEqProofs only[↓reduceIte,go_sem,Nat.reduceLT,Nat.reduceEqDiff,reduceCtorEq,t0,t1,t2,t3,t5,t13,t14,t15,t24,t25,t26,Nat.lt_add_one,←hlk,Nat.lt_succ_of_lt hia,Nat.lt_succ_of_lt hib,Nat.lt_succ_of_lt hic]
   ·clear hJk' hCa hCb hCc hxb hbk hlk hia hib hic
    rintro i s H' hi hw3 ⟨Hk,hJk,rfl,t0,t1,t2,t3,t5,t8,t13,t14,t15,t24,t25,t26,t43,t44,t45⟩
    have hx:(os.map cu)[i]?=some (cu os[i]):=by simp[hi]
    have e3:=oQ (bL k g) os i hi
    rw[e3]at e4
    rw[jc _ _ _ hi]
    generalize List.flatMap (bL k g) (List.drop (i+1) os)=tl3 at*
    generalize hd1:(⟨k,false,upto q.pred.length,0,g⟩:Pl)::(os.take i).flatMap (bL k g)=D2 at*
    have hd2:∀x,D1++(⟨k,false,upto q.pred.length,0,g⟩:Pl)::((os.take i).flatMap (bL k g)++x)=(D1++D2)++x:=fun x=>by rw[←hd1];simp
    generalize os[i]=o at*
    have e5:bJ f q=(D1++D2)++(bL k g o++(tl3++(tl2++tl))):=by rw[e4,←hd2];simp
    rw[hd2]
    clear e3 e4 hd1 hd2
    generalize D1++D2=D3 at*
    simp -implicitDefEqProofs only[↓reduceIte,go_sem,Nat.reduceAdd,Nat.reduceLT,Nat.reduceEqDiff,Nat.reduceBEq,t43,t44,t45,hi,hx,cu]
    refine aA (fun n s H'=>∃Hk,J (D3++(bL k g o).take n).length Hk∧H'=Hk++[.lp r s0]∧s 0= .gq m∧s 1= .ptr a 0 0 0∧s 2= .ptr b 0 0 0∧s 3= .ptr c 0 0 0∧s 5=iA k∧s 8=bA g∧s 10= .d (.list false (ints o))∧s 11=iA ((n:Int)+1)∧s 13= .d (.list false (f.projs.map Pj.ds))∧s 14=iA f.projs.length∧s 15=iA k∧s 24= .d (.list false (km ρ))∧s 25=iA ρ.length∧s 26=iA j∧s 43= .d (.list nn (os.map cu))∧s 44=iA os.length∧s 45=iA i) 3 (by omega) (ak.refl _ _) ?_ ?_ ?_
    ·refine⟨Hk,by simpa using hJk,rfl,?_⟩
     simp -implicitDefEqProofs only[↓reduceIte,go_sem,Nat.reduceLT,Nat.reduceEqDiff,Int.reduceAdd,reduceCtorEq,t0,t1,t2,t3,t5,t8,t13,t14,t15,t24,t25,t26,t43,t44,t45]
    ·clear hJk
     rintro n s H' hn hw4 ⟨Hk,hJk,rfl,t0,t1,t2,t3,t5,t8,t10,t11,t13,t14,t15,t24,t25,t26,t43,t44,t45⟩
     obtain⟨_,hbk,hlk⟩:=hJ _ _ hJk
     have e6:bL k g o=(bL k g o).take n++⟨k,true,o,(n:Int)+1,g⟩::(bL k g o).drop (n+1):=by
      rcases n with _|_|_|n<;>first|rfl|omega
     have e7:(bL k g o).take (n+1)=(bL k g o).take n++[⟨k,true,o,(n:Int)+1,g⟩]:=by
      rcases n with _|_|_|n<;>first|rfl|omega
     rw[e6]at e5
     rw[e7]
     generalize (bL k g o).drop (n+1)=tl4 at*
     generalize (bL k g o).take n=W at*
     have e8:bJ f q=(D3++W)++⟨k,true,o,(n:Int)+1,g⟩::(tl4++(tl3++(tl2++tl))):=by rw[e5];simp
     obtain⟨hi2,hxi⟩:=Cf e8
     have hYk:=fun T=>hY _ hi2 Hk T hJk
     rw[hxi]at hYk
     clear e5 e6 e7 e8
     obtain⟨n1,hn1⟩:∃n1:Int,n1=(n:Int)+1:=⟨_,rfl⟩
     rw[←hn1]at hYk t11⊢
     simp -implicitDefEqProofs only[↓reduceIte,go_sem,Nat.reduceAdd,Nat.reduceLT,Nat.reduceLeDiff,Nat.reduceEqDiff,reduceCtorEq,t0,t5,t8,t10,t11,show n1≤3 by omega]
     refine ql.ok (by exact hYk []) ?_
     intro b2 H' hb
     cases b2 with
     |false=>
      rw[if_neg (by simp)]at hb
      obtain⟨Hk',c',hjx,hbk',hlk',rfl⟩:=hb
      simp -implicitDefEqProofs only[↓reduceIte,go_sem,Nat.reduceLT]
      exact⟨_,_,ak.iter rfl hbk' hlk' hl0 hsb,rfl,.inr ⟨Hk',c',hjx,hlk',rfl⟩⟩
     |true=>
     rw[if_pos rfl]at hb
     obtain⟨Hk',hJk',rfl⟩:=hb
     obtain⟨⟨hCa,hCb,hCc⟩,hbk',hlk'⟩:=hJ _ _ hJk'
     have hia:=aj hCa
     have hib:=aj hCb
     have hic:=aj hCc
     simp -implicitDefEqProofs only[↓reduceIte,go_sem,Nat.reduceAdd,Nat.reduceLT,Nat.reduceEqDiff,Nat.reduceBEq,t11]
     refine⟨_,_,ak.iter rfl hbk' hlk' hl0 hsb,Hk',by simpa[Nat.add_assoc]using hJk',rfl,?_⟩
     simp -implicitDefEqProofs only[↓reduceIte,go_sem,Nat.reduceLT,Nat.reduceEqDiff,reduceCtorEq,t0,t1,t2,t3,t5,t8,t10,t13,t14,t15,t24,t25,t26,t43,t44,t45,Nat.lt_add_one,←hlk',Nat.lt_succ_of_lt hia,Nat.lt_succ_of_lt hib,Nat.lt_succ_of_lt hic,wrap64_in (n1+1) (by omega) (by omega),show(n:Int)+1+1=n1+1 by omega]
    ·rintro s H' ⟨Hk,hJk,rfl,t0,t1,t2,t3,t5,t8,t10,t11,t13,t14,t15,t24,t25,t26,t43,t44,t45⟩
     obtain⟨⟨hCa,hCb,hCc⟩,hbk,hlk⟩:=hJ _ _ hJk
     have hia:=aj hCa
     have hib:=aj hCb
     have hic:=aj hCc
     simp -implicitDefEqProofs only[↓reduceIte,go_sem,Nat.reduceAdd,Nat.reduceLT,Nat.reduceEqDiff,Nat.reduceBEq,Int.reduceLE,Int.reduceAdd,t11,t45]
     refine⟨_,_,ak.iter rfl hbk hlk hl0 hsb,Hk,by simpa[bL]using hJk,rfl,?_⟩
     simp -implicitDefEqProofs only[↓reduceIte,go_sem,Nat.reduceLT,Nat.reduceEqDiff,reduceCtorEq,t0,t1,t2,t3,t5,t8,t13,t14,t15,t24,t25,t26,t43,t44,hw3,Nat.lt_add_one,←hlk,Nat.lt_succ_of_lt hia,Nat.lt_succ_of_lt hib,Nat.lt_succ_of_lt hic]
   ·rintro s H' ⟨Hk,hJk,rfl,t0,t1,t2,t3,t5,t8,t13,t14,t15,t24,t25,t26,t43,t44,t45⟩
    rw[List.take_length]at hJk
    obtain⟨⟨hCa,hCb,hCc⟩,hbk,hlk⟩:=hJ _ _ hJk
    have hia:=aj hCa
    have hib:=aj hCb
    have hic:=aj hCc
    simp -implicitDefEqProofs only[↓reduceIte,go_sem,Nat.reduceAdd,Nat.reduceLT,Nat.reduceEqDiff,Nat.reduceBEq,t44,t45,t26]
    refine⟨_,_,ak.iter rfl hbk hlk hl0 hsb,Hk,by simpa[dB,hos]using hJk,rfl,?_⟩
    simp -implicitDefEqProofs only[↓reduceIte,go_sem,Nat.reduceLT,Nat.reduceEqDiff,reduceCtorEq,t0,t1,t2,t3,t5,t13,t14,t15,t24,t25,hw2,Nat.lt_add_one,←hlk,Nat.lt_succ_of_lt hia,Nat.lt_succ_of_lt hib,Nat.lt_succ_of_lt hic]
  ·rintro s H' ⟨Hk,hJk,rfl,t0,t1,t2,t3,t5,t13,t14,t15,t24,t25,t26⟩
   rw[List.take_length]at hJk
   obtain⟨⟨hCa,hCb,hCc⟩,hbk,hlk⟩:=hJ _ _ hJk
   have hia:=aj hCa
   have hib:=aj hCb
   have hic:=aj hCc
   simp -implicitDefEqProofs only[↓reduceIte,go_sem,Nat.reduceAdd,Nat.reduceLT,Nat.reduceEqDiff,Nat.reduceBEq,t25,t26,t15]
   refine⟨_,_,ak.iter rfl hbk hlk hl0 hsb,Hk,by simpa using hJk,rfl,?_⟩
   simp -implicitDefEqProofs only[↓reduceIte,go_sem,Nat.reduceLT,Nat.reduceEqDiff,reduceCtorEq,t0,t1,t2,t3,t13,t14,hw,Nat.lt_add_one,←hlk,Nat.lt_succ_of_lt hia,Nat.lt_succ_of_lt hib,Nat.lt_succ_of_lt hic]
 ·rintro s H' ⟨Hk,hJk,rfl,t0,t1,t2,t3,t13,t14,t15⟩
  obtain⟨_,hbk,hlk⟩:=hJ _ _ hJk
  simp -implicitDefEqProofs only[↓reduceIte,go_sem,Nat.reduceLT,t14,t15]
  exact⟨_,_,ak.iter rfl hbk hlk hl0 hsb,rfl,.inl ⟨Hk,by simpa[zP,bJ]using hJk,rfl⟩⟩
end Go.Proofs.YtggohfhfocgilaaGreat

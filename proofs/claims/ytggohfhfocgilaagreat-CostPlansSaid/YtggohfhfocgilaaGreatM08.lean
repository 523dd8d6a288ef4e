/- Contracts of functions and lemmas for costPlans_holds, part 8. -/
import Derived.Test.YtggohfhfocgilaaGreatM07
set_option maxHeartbeats 8000000
set_option maxRecDepth 100000
set_option linter.all false
namespace Go.Proofs.YtggohfhfocgilaaGreat
open Go.Proofs.YtggohfhfocgilaaGreatAw Go.RowKit
def jZ(id:Nat)(k:Int):List (Int×AV):=
 [(1,.agg [.fn 190 [.ptr id 0 0 0],.fn 192 [.ptr id 0 0 0]]),(2,.agg [.fn 194 [.ptr id 0 0 0],.fn 196 [.ptr id 0 0 0]]),(3,.agg [.fn 198 [.ptr id 0 0 0],.fn 200 [.ptr id 0 0 0]])]++
 if k=1 then[(4,.agg [.fn 202 [],.fn 203 []])]else[]
theorem eB(k:Int)(H:aa):ah Tryz.prog 160 [iA k] H (.ok (.mp (H.length+1))) (H++[kB k,.mp .i64 (jZ H.length k)]):=by
 by_cases h:k=1
 ·subst h
  have hM:jZ H.length 1=[(1,.agg [.fn 190 [.ptr H.length 0 0 0],.fn 192 [.ptr H.length 0 0 0]]),(2,.agg [.fn 194 [.ptr H.length 0 0 0],.fn 196 [.ptr H.length 0 0 0]]),(3,.agg [.fn 198 [.ptr H.length 0 0 0],.fn 200 [.ptr H.length 0 0 0]]),(4,.agg [.fn 202 [],.fn 203 []])]:=by unfold jZ;rw[if_pos rfl];rfl
  rw[hM]
  refine ah.aj (hint:=(fun _=>false)) Tryz.func160 (by kernel_rfl) rfl [2] (by kernel_rfl) (by decide) (by simp[Tryz.ntmps160]) ?_
  rw[Tryz.ntmps160]
  simp -implicitDefEqProofs only[↓reduceIte,go_sem,ae,Nat.reduceAdd,Nat.reduceLT,Nat.reduceLeDiff,Nat.reduceEqDiff,Int.reduceEq,iT,eO]
  unfold kB
  exact⟨_,an.refl _ _,by simp -implicitDefEqProofs only[↓reduceIte,go_sem,Nat.reduceLT]⟩
 ·have hM:jZ H.length k=[(1,.agg [.fn 190 [.ptr H.length 0 0 0],.fn 192 [.ptr H.length 0 0 0]]),(2,.agg [.fn 194 [.ptr H.length 0 0 0],.fn 196 [.ptr H.length 0 0 0]]),(3,.agg [.fn 198 [.ptr H.length 0 0 0],.fn 200 [.ptr H.length 0 0 0]])]:=by unfold jZ;rw[if_neg h];rfl
  rw[hM]
  refine ah.aj (hint:=(fun _=>false)) Tryz.func160 (by kernel_rfl) rfl [2] (by kernel_rfl) (by decide) (by simp[Tryz.ntmps160]) ?_
  rw[Tryz.ntmps160]
  simp -implicitDefEqProofs only[↓reduceIte,go_sem,ae,Nat.reduceAdd,Nat.reduceLT,Nat.reduceLeDiff,Nat.reduceEqDiff,Int.reduceEq,iT,eO,h]
  unfold kB
  exact⟨_,an.refl _ _,by simp -implicitDefEqProofs only[↓reduceIte,go_sem,Nat.reduceLT]⟩
theorem pd(l:List ak)(k:Int)(hok:∀v∈l,fV v.i)(hl:l.length≤1000000000)(G:aa)(id:Nat)(h:G[id]?=some (kB k)):
  ah Tryz.prog 190 [.d (.list false (l.map ak.enc)),.ptr id 0 0 0] G (.ok (.bq [.d (.list false (dx (oD l k))),iA (bg l k)])) G:=by
 have hd:=fun H=>mI l k hok H (by omega)
 unfold kB at h
 refine ah.aj (hint:=(fun _=>false)) Tryz.func190 (by kernel_rfl) rfl [3,4] (by kernel_rfl) (by decide) (by simp[Tryz.ntmps190]) ?_
 rw[Tryz.ntmps190]
 simp -implicitDefEqProofs only[↓reduceIte,go_sem,ae,Nat.reduceLT,Nat.reduceEqDiff,reduceCtorEq,h]
 refine ab.ok (hd _) ?_
 simp -implicitDefEqProofs only[↓reduceIte,go_sem,Nat.reduceLT,Nat.reduceEqDiff]
 refine ao.aF ?_
 simp -implicitDefEqProofs only[↓reduceIte,go_sem,Nat.reduceLT,Nat.reduceEqDiff]
theorem rG(l:List ak)(k:Int)(hok:∀v∈l,fV v.i)(hl:l.length≤1000000000)(G:aa)(id:Nat)(h:G[id]?=some (kB k)):
  ah Tryz.prog 198 [.d (.list false (l.map ak.enc)),.ptr id 0 0 0] G (.ok (.bq [.d (.list false (dx (nO l k))),iA (bg l k)])) G:=by
 have hd:=fun H=>mY l k hok H (by omega)
 unfold kB at h
 refine ah.aj (hint:=(fun _=>false)) Tryz.func198 (by kernel_rfl) rfl [3,4] (by kernel_rfl) (by decide) (by simp[Tryz.ntmps198]) ?_
 rw[Tryz.ntmps198]
 simp -implicitDefEqProofs only[↓reduceIte,go_sem,ae,Nat.reduceLT,Nat.reduceEqDiff,reduceCtorEq,h]
 refine ab.ok (hd _) ?_
 simp -implicitDefEqProofs only[↓reduceIte,go_sem,Nat.reduceLT,Nat.reduceEqDiff]
 refine ao.aF ?_
 simp -implicitDefEqProofs only[↓reduceIte,go_sem,Nat.reduceLT,Nat.reduceEqDiff]
theorem r3(l:List ak)(k:Int)(hok:∀v∈l,fV v.i)(hl:l.length≤1000000000)(G:aa)(id:Nat)(h:G[id]?=some (kB k)):
  ah Tryz.prog 194 [.d (.list false (l.map ak.enc)),.ptr id 0 0 0] G (.ok (.bq [.d (.list false (dx (AW l k))),iA (bg l k)])) G:=by
 have hd:=fun H=>oL l k hok H (by omega)
 unfold kB at h
 refine ah.aj (hint:=(fun _=>false)) Tryz.func194 (by kernel_rfl) rfl [3,4] (by kernel_rfl) (by decide) (by simp[Tryz.ntmps194]) ?_
 rw[Tryz.ntmps194]
 simp -implicitDefEqProofs only[↓reduceIte,go_sem,ae,Nat.reduceLT,Nat.reduceEqDiff,reduceCtorEq,h]
 refine ab.ok (hd _) ?_
 simp -implicitDefEqProofs only[↓reduceIte,go_sem,Nat.reduceLT,Nat.reduceEqDiff]
 refine ao.aF ?_
 simp -implicitDefEqProofs only[↓reduceIte,go_sem,Nat.reduceLT,Nat.reduceEqDiff]
def xo(a b:ak):Nat:=jt (IntKind.i64.wrap (b.i-a.i))
def cK(l:List ak):List Nat:=List.zipWith xo l l.tail
theorem j2(l:List ak):(cK l).length=l.length-1:=by simp[cK]
theorem m4(l:List ak)(k:Nat)(h:k+1<l.length):(cK l)[k]?=some (xo l[k] l[k+1]):=by
 simp[cK,List.getElem?_zipWith,List.getElem?_tail,h,show k<l.length by omega]
theorem Ba(a b:ak):xo a b<18446744073709551616:=mU (ic _).1 (ic _).2
theorem xQ(l:List ak):∀n∈cK l,n<18446744073709551616:=by
 intro n hn
 obtain⟨k,hk⟩:=List.getElem?_of_mem hn
 have hlt:=(List.getElem?_eq_some_iff.1 hk).1
 rw[j2]at hlt
 rw[m4 l k (by omega)]at hk
 cases hk
 exact Ba _ _
theorem vy(l:List ak)(k:Nat)(h:k+1<l.length):(cK l).take (k+1)=(cK l).take k++[xo l[k] l[k+1]]:=by
 rw[List.take_add_one,m4 l k h];rfl
theorem uF(l:List ak)(nn:Bool)(H:aa)(hl:l.length≤1000000000000):ah Tryz.prog 234 [.d (.list nn (l.map ak.enc))] H (.ok (.d (.list false (us (cK l))))) H:=by
 have hsl:=j2 l
 refine ah.aj (hint:=(fun _=>false)) Tryz.func234 (by kernel_rfl) rfl [2] (by kernel_rfl) (by decide) (by simp[Tryz.ntmps234]) ?_
 rw[Tryz.ntmps234]
 simp -implicitDefEqProofs only[go_sem]
 refine aP (fun k s H'=>H'=H++[.arr 40 1 k (us ((cK l).take k))]∧s 0= .d (.list nn (l.map ak.enc))∧s 3= .sl H.length k 0 k∧s 4=iA ((k:Int)+1)) (l.length-1) (by omega) (an.fy _ _ 3 40 1 (by decide) (by simp -implicitDefEqProofs only[↓reduceIte,go_sem,Nat.reduceLT,Nat.reduceEqDiff]) _) ?_ ?_ ?_
 ·refine⟨?_,?_⟩
  ·simp -implicitDefEqProofs only[go_sem,List.take_zero,DR]
  ·simp -implicitDefEqProofs only[↓reduceIte,go_sem,Nat.reduceLT,Nat.reduceEqDiff,Int.reduceAdd,reduceCtorEq]
 ·rintro k s H' hk hw ⟨rfl,t0,t3,t4⟩
  have hk1:k<l.length:=by omega
  have hk2:k+1<l.length:=by omega
  have hx:=List.getElem?_eq_getElem hk1
  have hy:=List.getElem?_eq_getElem hk2
  have hs:=vy l k hk2
  generalize l[k]=x at hx hs
  generalize l[k+1]=y at hy hs
  have hlen:((cK l).take k).length=k:=by simp;omega
  have hw2:IntKind.i64.wrap ((k:Int)+1-1)=(k:Int):=by rw[wrap64_in _ (by omega) (by omega)];omega
  have hw3:IntKind.i64.wrap ((k:Int)+1+1)=(k:Int)+1+1:=wrap64_in _ (by omega) (by omega)
  have hc:((k:Int)+1<(l.length:Int))=True:=eq_true (by omega)
  have ht:((k:Int)+1).toNat=k+1:=by omega
  have hp:(0≤(k:Int)+1)=True:=eq_true (by omega)
  generalize (cK l).take k=L at hs hlen
  simp -implicitDefEqProofs only[↓reduceIte,go_sem,Nat.reduceLT,Nat.reduceEqDiff,reduceCtorEq,t0,t4,hc]
  refine lf 15 K.mixed (by kernel_rfl) (by kernel_rfl) ?_
  simp -implicitDefEqProofs only[↓reduceIte,go_sem,Nat.reduceAdd,Nat.reduceLT,Nat.reduceLeDiff,Nat.reduceEqDiff,reduceCtorEq,t0,t3,t4,hw2,hx,hy,ht,hp,ak.enc]
  refine ab.ok (nR _ (ic _).1 (ic _).2 _) ?_
  simp -implicitDefEqProofs only[↓reduceIte,go_sem,Nat.reduceLT,Nat.reduceLeDiff,Nat.reduceEqDiff,lg,hlen,t4,wR]
  refine⟨by omega,by omega,cO.same ⟨?_,?_⟩⟩
  ·rw[hs];rfl
  ·simp -implicitDefEqProofs only[↓reduceIte,go_sem,Nat.reduceLT,Nat.reduceEqDiff,reduceCtorEq,t0,hw3]
   trace_state
 ·rintro s H' ⟨rfl,t0,t3,t4⟩
  have hc:(((l.length-1:Nat):Int)+1<(l.length:Int))=False:=eq_false (by omega)
  simp -implicitDefEqProofs only[↓reduceIte,go_sem,Nat.reduceLT,Nat.reduceEqDiff,reduceCtorEq,t0,t3,t4,hc]
  refine ao.ret ?_
  simp -implicitDefEqProofs only[↓reduceIte,go_sem,Nat.reduceLT,cN,lg,hsl]
def vd(l:List ak):List Nat:=match l with
 |[]=>[]
 |v::_=>cA (jt v.i)++cA (fD (cK l))++fb (cK l) (fD (cK l))
def nH(l:List ak):AV:=if bg l 1=0∧l≠[]then .bq [.d (.list false (dx (vd l))),iA 0]else .bq [.d (.v (.slice none 0 0)),iA (bg l 1)]
theorem uj(l:List ak)(hok:∀v∈l,fV v.i)(nn:Bool)(H:aa)(hl:l.length≤1000000000000):ah Tryz.prog 202 [.d (.list nn (l.map ak.enc))] H (.ok (nH l)) H:=by
 have hbad:∀b:Bool,b=true∨b=false:=by decide
 refine ah.aj (hint:=(fun _=>false)) Tryz.func202 (by kernel_rfl) rfl [2,3] (by kernel_rfl) (by decide) (by simp[Tryz.ntmps202]) ?_
 rw[Tryz.ntmps202]
 simp -implicitDefEqProofs only[↓reduceIte,go_sem,Nat.reduceLT,reduceCtorEq]
 refine ab.ok (db l 1 nn _ (by omega)) ?_
 by_cases h1:bg l 1=0
 ·cases l with
  |nil=>
   simp -implicitDefEqProofs only[↓reduceIte,go_sem,Nat.reduceLT,Nat.reduceEqDiff,reduceCtorEq,h1]
   refine ao.aF ?_
   simp -implicitDefEqProofs only[↓reduceIte,go_sem,Nat.reduceLT,Nat.reduceEqDiff,nH,h1,Ne,not_true,and_false]
  |cons v r=>
   have hs:=j2 (v::r)
   have h4:=gM h1
   have hl0:(((v::r).length:Nat):Int)=0↔False:=by simp;omega
   have hll:=hok v (by simp)
   have hss:=xQ (v::r)
   simp -implicitDefEqProofs only[↓reduceIte,go_sem,Nat.reduceLT,Nat.reduceEqDiff,reduceCtorEq,h1,show(((r.length:Nat):Int)+1=0)=False from eq_false (by omega)]
   refine ab.ok (uF (v::r) nn _ hl) ?_
   simp -implicitDefEqProofs only[↓reduceIte,go_sem,Nat.reduceLT]
   refine ab.ok (nm _ false _ (by omega) hss) ?_
   have hw64:=yE hss
   have hfit:=td (l:=cK (v::r))
   have hzl:=mU hll.1 hll.2
   have hb:vd (v::r)=cA (jt v.i)++cA (fD (cK (v::r)))++fb (cK (v::r)) (fD (cK (v::r))):=rfl
   generalize fD (cK (v::r))=w at*
   generalize cK (v::r)=S at*
   simp -implicitDefEqProofs only[↓reduceIte,go_sem,Nat.reduceAdd,Nat.reduceLT,Nat.reduceLeDiff,Int.reduceLE,Int.reduceToNat,reduceCtorEq,ak.enc]
   refine ab.ok (nR _ hll.1 hll.2 _) ?_
   simp -implicitDefEqProofs only[↓reduceIte,go_sem,Nat.reduceLT]
   refine ab.ok (fO _ hzl _) ?_
   simp -implicitDefEqProofs only[↓reduceIte,go_sem,Nat.reduceLT,Nat.reduceEqDiff,cM w (by omega)]
   refine ab.ok (nI w (by omega) _) ?_
   have l1:=eu 10 (jt v.i) (by omega)
   have l2:=eu 10 w (by omega)
   simp -implicitDefEqProofs only[↓reduceIte,go_sem,Nat.reduceLT,Nat.reduceEqDiff,fM,bK,gQ]
   refine⟨by omega,by omega,?_⟩
   refine ab.ok (po S w hw64 hfit (by omega) false _) ?_
   simp -implicitDefEqProofs only[↓reduceIte,go_sem,Nat.reduceLT,Nat.reduceEqDiff,fM,bK,gQ,List.length_append]
   have l3:(fb S w).length≤100000:=by
    rw[fb,gp,jA]
    have:S.length* w≤4096* 64:=Nat.mul_le_mul (by omega) hw64
    omega
   refine⟨by omega,by omega,ao.ret ?_⟩
   have ht:(dx (cA (jt v.i)++(cA w++fb S w))).take ((cA (jt v.i)).length+(cA w).length+(fb S w).length)=dx (cA (jt v.i)++(cA w++fb S w)):=cN _ _ (by rw[bK,List.length_append,List.length_append];omega)
   simp -implicitDefEqProofs only[↓reduceIte,go_sem,Nat.reduceLT,Nat.reduceEqDiff,reduceCtorEq,nH,h1,hb,ht,Ne,not_false_eq_true,and_self]
 ·simp -implicitDefEqProofs only[↓reduceIte,go_sem,Nat.reduceLT,Nat.reduceEqDiff,h1]
  refine ao.aF ?_
  simp -implicitDefEqProofs only[↓reduceIte,go_sem,Nat.reduceLT,Nat.reduceEqDiff,nH,h1,false_and]
def wy(l:List ak):List Nat:=if bg l 1=0∧l≠[]then vd l else[]
def iM(l:List ak)(k w:Int):List Nat×Int:=
 if w=1 then(oD l k,bg l k)else if w=2 then(AW l k,bg l k)else if w=3 then(nO l k,bg l k)
 else if w=4∧k=1 then(wy l,bg l 1)else([],1)
theorem qj(l:List ak)(hok:∀v∈l,fV v.i)(nn:Bool)(H:aa)(hl:l.length≤1000000000000):ah Tryz.prog 202 [.d (.list nn (l.map ak.enc))] H (.ok (.bq [.d (.list false (dx (wy l))),iA (bg l 1)])) H:=by
 have h:=uj l hok nn H hl
 unfold nH at h
 unfold wy
 by_cases c:bg l 1=0∧l≠[]
 ·rw[if_pos c]at h⊢
  rw[c.1]
  exact h
 ·rw[if_neg c]at h⊢
  exact ah.jW h (.cons .nil (.cons (.refl _) .nil))
def vY(id:Nat)(k w:Int):Option AV:=
 if w=1 then some (.agg [.fn 190 [.ptr id 0 0 0],.fn 192 [.ptr id 0 0 0]])
 else if w=2 then some (.agg [.fn 194 [.ptr id 0 0 0],.fn 196 [.ptr id 0 0 0]])
 else if w=3 then some (.agg [.fn 198 [.ptr id 0 0 0],.fn 200 [.ptr id 0 0 0]])
 else if w=4∧k=1 then some (.agg [.fn 202 [],.fn 203 []])else none
theorem uP(id:Nat)(k w:Int):dz w (jZ id k)=vY id k w:=by
 unfold jZ vY
 by_cases h1:w=1
 ·subst h1;rfl
 by_cases h2:w=2
 ·subst h2;rfl
 by_cases h3:w=3
 ·subst h3;rfl
 rw[if_neg h1,if_neg h2,if_neg h3]
 by_cases hk:k=1
 ·subst hk
  by_cases h4:w=4
  ·subst h4;rfl
  ·simp[dz,eO,h1,h2,h3,h4]
 ·rw[if_neg hk,if_neg (fun h=>hk h.2)]
  simp[dz,eO,h1,h2,h3]
theorem pD(l:List ak)(k w:Int)(hok:∀v∈l,fV v.i)(hl:l.length≤1000000000)(H:aa):
  ah Tryz.prog 126 [.d (.list false (l.map ak.enc)),iA k,iA w] H (.ok (.bq [.d (.list false (dx (iM l k w).1)),iA (iM l k w).2])) H:=by
 have hg:=fun id=>uP id k w
 unfold vY at hg
 unfold iM
 have hk:∀T:aa,((H++kB k::T):aa)[H.length]?=some (kB k):=fun T=>by simp
 by_cases h1:w=1
 ·subst h1
  simp only[if_true]at hg⊢
  refine ah.aj (hint:=(fun _=>false)) Tryz.func126 (by kernel_rfl) rfl [6,7] (by kernel_rfl) (by decide) (by simp[Tryz.ntmps126]) ?_
  rw[Tryz.ntmps126]
  simp -implicitDefEqProofs only[↓reduceIte,go_sem,Nat.reduceLT,Nat.reduceEqDiff]
  refine ab.ok (eB k _) ?_
  simp -implicitDefEqProofs only[↓reduceIte,go_sem,ae,aw,Nat.reduceAdd,Nat.reduceLT,Nat.reduceLeDiff,Nat.reduceEqDiff,reduceCtorEq,hg,Option.getD_some,Option.isSome_some]
  refine ab.ok (pd l k hok hl _ H.length (hk _)) ?_
  simp -implicitDefEqProofs only[↓reduceIte,go_sem,Nat.reduceLT,Nat.reduceEqDiff]
  refine ao.ret ?_
  simp -implicitDefEqProofs only[↓reduceIte,go_sem,Nat.reduceLT,Nat.reduceEqDiff]
 rw[if_neg h1]at⊢
 simp only[if_neg h1]at hg
 by_cases h2:w=2
 ·subst h2
  simp only[if_true]at hg⊢
  refine ah.aj (hint:=(fun _=>false)) Tryz.func126 (by kernel_rfl) rfl [6,7] (by kernel_rfl) (by decide) (by simp[Tryz.ntmps126]) ?_
  rw[Tryz.ntmps126]
  simp -implicitDefEqProofs only[↓reduceIte,go_sem,Nat.reduceLT,Nat.reduceEqDiff]
  refine ab.ok (eB k _) ?_
  simp -implicitDefEqProofs only[↓reduceIte,go_sem,ae,aw,Nat.reduceAdd,Nat.reduceLT,Nat.reduceLeDiff,Nat.reduceEqDiff,reduceCtorEq,hg,Option.getD_some,Option.isSome_some]
  refine ab.ok (r3 l k hok hl _ H.length (hk _)) ?_
  simp -implicitDefEqProofs only[↓reduceIte,go_sem,Nat.reduceLT,Nat.reduceEqDiff]
  refine ao.ret ?_
  simp -implicitDefEqProofs only[↓reduceIte,go_sem,Nat.reduceLT,Nat.reduceEqDiff]
 rw[if_neg h2]at⊢
 simp only[if_neg h2]at hg
 by_cases h3:w=3
 ·subst h3
  simp only[if_true]at hg⊢
  refine ah.aj (hint:=(fun _=>false)) Tryz.func126 (by kernel_rfl) rfl [6,7] (by kernel_rfl) (by decide) (by simp[Tryz.ntmps126]) ?_
  rw[Tryz.ntmps126]
  simp -implicitDefEqProofs only[↓reduceIte,go_sem,Nat.reduceLT,Nat.reduceEqDiff]
  refine ab.ok (eB k _) ?_
  simp -implicitDefEqProofs only[↓reduceIte,go_sem,ae,aw,Nat.reduceAdd,Nat.reduceLT,Nat.reduceLeDiff,Nat.reduceEqDiff,reduceCtorEq,hg,Option.getD_some,Option.isSome_some]
  refine ab.ok (rG l k hok hl _ H.length (hk _)) ?_
  simp -implicitDefEqProofs only[↓reduceIte,go_sem,Nat.reduceLT,Nat.reduceEqDiff]
  refine ao.ret ?_
  simp -implicitDefEqProofs only[↓reduceIte,go_sem,Nat.reduceLT,Nat.reduceEqDiff]
 rw[if_neg h3]at⊢
 simp only[if_neg h3]at hg
 by_cases h4:w=4∧k=1
 ·simp only[if_pos h4]at hg⊢
  refine ah.aj (hint:=(fun _=>false)) Tryz.func126 (by kernel_rfl) rfl [6,7] (by kernel_rfl) (by decide) (by simp[Tryz.ntmps126]) ?_
  rw[Tryz.ntmps126]
  simp -implicitDefEqProofs only[↓reduceIte,go_sem,Nat.reduceLT,Nat.reduceEqDiff]
  refine ab.ok (eB k _) ?_
  simp -implicitDefEqProofs only[↓reduceIte,go_sem,ae,aw,Nat.reduceAdd,Nat.reduceLT,Nat.reduceLeDiff,Nat.reduceEqDiff,reduceCtorEq,hg,Option.getD_some,Option.isSome_some]
  refine ab.ok (qj l hok false _ (by omega)) ?_
  simp -implicitDefEqProofs only[↓reduceIte,go_sem,Nat.reduceLT,Nat.reduceEqDiff]
  refine ao.ret ?_
  simp -implicitDefEqProofs only[↓reduceIte,go_sem,Nat.reduceLT,Nat.reduceEqDiff]
 simp only[if_neg h4]at hg⊢
 refine ah.jW (cs:=[.d (.v (.slice none 0 0)),iA 1]) ?_ (.cons .nil (.cons (.refl _) .nil))
 refine ah.aj (hint:=(fun _=>false)) Tryz.func126 (by kernel_rfl) rfl [6,7] (by kernel_rfl) (by decide) (by simp[Tryz.ntmps126]) ?_
 rw[Tryz.ntmps126]
 simp -implicitDefEqProofs only[↓reduceIte,go_sem,Nat.reduceLT,Nat.reduceEqDiff]
 refine ab.ok (eB k _) ?_
 simp -implicitDefEqProofs only[↓reduceIte,go_sem,aw,Nat.reduceAdd,Nat.reduceLT,Nat.reduceEqDiff,hg,Option.getD_none,Option.isSome_none]
 refine ao.ret ?_
 simp -implicitDefEqProofs only[↓reduceIte,go_sem,Nat.reduceLT,Nat.reduceEqDiff]
def Bc(l:List ak)(k:Int)(x:Int×Int)(c:Int):Int×Int:=if(iM l k c).2=0∧(x.1<0∨((iM l k c).1.length:Int)<x.1)then((iM l k c).1.length,c)else x
def nG(l:List ak)(k:Int):Nat→Int×Int
 |0=>(-1,0)
 |n+1=>Bc l k (nG l k n) ((n:Int)+1)
def so(l:List ak)(k:Int):Int:=(nG l k 4).2
theorem zc(l:List ak)(k:Int)(hok:∀v∈l,fV v.i)(hl:l.length≤1000000000)(H:aa):
  ah Tryz.prog 125 [.d (.list false (l.map ak.enc)),iA k] H (.ok (iA (so l k))) H:=by
 have hb:=fun w H=>pD l k w hok hl H
 have hst:∀n,nG l k (n+1)=Bc l k (nG l k n) ((n:Int)+1):=fun n=>rfl
 have hfin:so l k=(nG l k 4).2:=rfl
 rw[hfin]
 have h0:nG l k 0=(-1,0):=rfl
 generalize nG l k=st at*
 refine ah.aj (hint:=(fun _=>false)) Tryz.func125 (by kernel_rfl) rfl [4] (by kernel_rfl) (by decide) (by simp[Tryz.ntmps125]) ?_
 rw[Tryz.ntmps125]
 simp -implicitDefEqProofs only[go_sem,Int.reduceNeg]
 refine br _ _ _ _ (fun(n:Nat) s H'=>H'=H∧n≤4∧s 0= .d (.list false (l.map ak.enc))∧s 1=iA k∧s 5=iA (st n).1∧s 6=iA (st n).2∧s 7=iA ((n:Int)+1)) (fun n=>4-n) 0 (an.refl _ _) ?_ ?_
 ·refine⟨rfl,by omega,?_⟩
  rw[h0]
  simp -implicitDefEqProofs only[↓reduceIte,go_sem,Nat.reduceLT,Nat.reduceEqDiff,Int.reduceAdd,Int.reduceNeg,reduceCtorEq]
 ·rintro n s H' ⟨rfl,hn,t0,t1,t5,t6,t7⟩
  by_cases h4:n<4
  ·have hs:=hst n
   have hb1:=hb ((n:Int)+1)
   have wn:IntKind.i64.wrap ((n:Int)+1+1)=(n:Int)+1+1:=wrap64_in _ (by omega) (by omega)
   unfold Bc at hs
   generalize st n=x at*
   obtain⟨x1,x2⟩:=x
   simp only at hs t5 t6
   generalize hbp:iM l k ((n:Int)+1)=q at*
   obtain⟨bs,e⟩:=q
   simp only at hs hb1
   simp -implicitDefEqProofs only[↓reduceIte,go_sem,Nat.reduceLT,Nat.reduceEqDiff,reduceCtorEq,t0,t1,t7,show(((n:Int)+1)≤4)=True from eq_true (by omega)]
   refine ab.ok (hb1 _) ?_
   by_cases he:e=0
   ·by_cases h1:x1<0
    ·rw[if_pos ⟨he,.inl h1⟩]at hs
     simp -implicitDefEqProofs only[↓reduceIte,go_sem,Nat.reduceLT,Nat.reduceEqDiff,t5,t7,he,h1,bK,wn]
     refine⟨_,_,n+1,an.refl _ _,⟨rfl,by omega,?_⟩,by omega⟩
     rw[hs]
     simp -implicitDefEqProofs only[↓reduceIte,go_sem,Nat.reduceLT,Nat.reduceEqDiff,reduceCtorEq,t0,t1]
    ·by_cases h2:(bs.length:Int)<x1
     ·rw[if_pos ⟨he,.inr h2⟩]at hs
      simp -implicitDefEqProofs only[↓reduceIte,go_sem,Nat.reduceLT,Nat.reduceEqDiff,reduceCtorEq,t5,t7,he,h1,h2,bK,wn]
      refine⟨_,_,n+1,an.refl _ _,⟨rfl,by omega,?_⟩,by omega⟩
      rw[hs]
      simp -implicitDefEqProofs only[↓reduceIte,go_sem,Nat.reduceLT,Nat.reduceEqDiff,reduceCtorEq,t0,t1]
     ·rw[if_neg (fun h=>h.2.elim h1 h2)]at hs
      simp -implicitDefEqProofs only[↓reduceIte,go_sem,Nat.reduceLT,Nat.reduceEqDiff,reduceCtorEq,t5,t7,he,h1,h2,bK,wn]
      refine⟨_,_,n+1,an.refl _ _,⟨rfl,by omega,?_⟩,by omega⟩
      rw[hs]
      simp -implicitDefEqProofs only[↓reduceIte,go_sem,Nat.reduceLT,Nat.reduceEqDiff,reduceCtorEq,t0,t1,t5,t6]
   ·rw[if_neg (fun h=>he h.1)]at hs
    simp -implicitDefEqProofs only[↓reduceIte,go_sem,Nat.reduceLT,Nat.reduceEqDiff,reduceCtorEq,t7,he,wn]
    refine⟨_,_,n+1,an.refl _ _,⟨rfl,by omega,?_⟩,by omega⟩
    rw[hs]
    simp -implicitDefEqProofs only[↓reduceIte,go_sem,Nat.reduceLT,Nat.reduceEqDiff,reduceCtorEq,t0,t1,t5,t6]
  ·obtain rfl:n=4:=by omega
   simp -implicitDefEqProofs only[↓reduceIte,go_sem,Nat.reduceLT,Nat.reduceEqDiff,Int.reduceLE,Int.reduceAdd,t6,t7]
   refine ao.aF ?_
   simp -implicitDefEqProofs only[↓reduceIte,go_sem,Nat.reduceLT]
def ir(l:List Bool):List (List D):=l.map fun b=>[.v (.bool b)]
theorem pU(l:List Bool):(ir l).length=l.length:=by simp[ir]
theorem wg(l:List Bool)(b:Bool):ir l++[[.v (.bool b)]]=ir (l++[b]):=by simp[ir]
def bY(l:List ak):List ak:=l.filter fun v=>decide (v.kind≠0)
def pJ(l:List ak):List (List AV):=(bY l).map fun v=>[v.av]
abbrev lB(l:List ak):aA:= .box 136 1 0 1 [.d (.list false (l.map ak.enc))]
theorem wC(l:List ak)(v:ak):bY (l++[v])=if v.kind=0 then bY l else bY l++[v]:=by
 unfold bY
 rw[List.filter_append]
 by_cases h:v.kind=0<;>simp[h]
theorem Ac(l:List ak){k:Nat}(hk:k<l.length)(hz:l[k].kind≠0):∃h:(bY (l.take k)).length<(pJ l).length,(pJ l)[(bY (l.take k)).length]=[l[k].av]:=by
 have e:bY l=bY (l.take k)++l[k]::bY (l.drop (k+1)):=by
  have h1:l=l.take k++(l[k]::l.drop (k+1)):=by rw[←List.drop_eq_getElem_cons hk,List.take_append_drop]
  have h2:bY (l.take k++(l[k]::l.drop (k+1)))=bY (l.take k)++l[k]::bY (l.drop (k+1)):=by
   unfold bY
   rw[List.filter_append,List.filter_cons,if_pos (by simpa using hz)]
  rw[←h1]at h2
  exact h2
 unfold pJ
 rw[e]
 refine⟨by simp,?_⟩
 simp
theorem zm(l:List ak)(H:aa):ah Tryz.prog 156 [.d (.list false (l.map ak.enc))] H (.ok (.fn 189 [.ptr H.length 0 0 0])) (H++[lB l]):=by
 refine ah.aj (hint:=(fun _=>false)) Tryz.func156 (by kernel_rfl) rfl [2] (by kernel_rfl) (by decide) (by simp[Tryz.ntmps156]) ?_
 rw[Tryz.ntmps156]
 simp -implicitDefEqProofs only[↓reduceIte,go_sem,Nat.reduceLT,Nat.reduceEqDiff]
 exact⟨_,an.refl _ _,by simp -implicitDefEqProofs only[↓reduceIte,go_sem,Nat.reduceLT]⟩
theorem BW(l:List ak)(id:Nat)(hl:l.length≤1000000000000):oe Tryz.prog 189 [.ptr id 0 0 0] (fun H=>H[id]?=some (lB l)) (pJ l):=by
 intro r s0 J Jx m Hs h0 hsb hJ hY
 refine pt.aj (hint:=fun t=>t==3000000) Tryz.func189 (by kernel_rfl) rfl [] (by kernel_rfl) (by decide) (by simp[Tryz.ntmps189]) ?_
 rw[Tryz.ntmps189]
 obtain⟨hC0,_,hl0⟩:=hJ 0 Hs h0
 have hx0:(Hs++[aA.lp r s0])[id]?=some (lB l):=by rw[List.getElem?_append_left (al hC0)];exact hC0
 simp -implicitDefEqProofs only[↓reduceIte,go_sem,ae,Nat.reduceLT,hx0]
 refine bf (fun k s H'=>∃Hk,J (bY (l.take k)).length Hk∧H'=Hk++[.lp r s0]∧s 0= .gl m∧s 5= .d (.list false (l.map ak.enc))∧s 6=iA l.length∧s 7=iA k) l.length (by omega) (an.refl _ _) ?_ ?_ ?_
 ·refine⟨Hs,h0,rfl,?_⟩
  simp -implicitDefEqProofs only[↓reduceIte,go_sem,Nat.reduceLT,Nat.reduceEqDiff,reduceCtorEq]
 ·rintro k s H' hk hw ⟨Hk,hJk,rfl,t0,t5,t6,t7⟩
  have hx:(l.map ak.enc)[k]?=some [.v (.int .i64 l[k].kind),.v (.int .i64 l[k].i),.v (.string l[k].s)]:=by rw[List.getElem?_map,List.getElem?_eq_getElem hk];rfl
  have e1:=wC (l.take k) l[k]
  rw[←List.take_succ_eq_append_getElem hk]at e1
  obtain⟨hCk,hbk,hlk⟩:=hJ _ _ hJk
  by_cases hz:l[k].kind=0
  ·rw[if_pos hz]at e1
   generalize l[k]=v at*
   simp -implicitDefEqProofs only[↓reduceIte,go_sem,ae,aw,Nat.reduceAdd,Nat.reduceLT,Nat.reduceLeDiff,Nat.reduceEqDiff,Nat.reduceBEq,reduceCtorEq,t5,t6,t7,hk,hx,hz]
   refine⟨_,_,an.iter rfl hbk hlk hl0 hsb,Hk,by rw[e1];exact hJk,rfl,?_⟩
   simp -implicitDefEqProofs only[↓reduceIte,go_sem,Nat.reduceLT,Nat.reduceEqDiff,reduceCtorEq,t0,t5,t6,hw,Nat.lt_add_one]
  ·rw[if_neg hz]at e1
   obtain⟨hi,hxi⟩:=Ac l hk hz
   have hYk:=fun T=>hY _ hi Hk T hJk
   rw[hxi]at hYk
   generalize hv:l[k]=v at*
   simp -implicitDefEqProofs only[↓reduceIte,go_sem,ae,aw,Nat.reduceAdd,Nat.reduceLT,Nat.reduceLeDiff,Nat.reduceEqDiff,Nat.reduceBEq,reduceCtorEq,t0,t5,t6,t7,hk,hx,hz]
   refine tq.ok (hYk [.box 100 3 0 1 [iA v.kind,iA v.i,sA v.s]]) ?_
   intro b H' hb
   cases b with
   |true=>
    rw[if_pos rfl]at hb
    obtain⟨Hk',hJk',rfl⟩:=hb
    obtain⟨hCk',hbk',hlk'⟩:=hJ _ _ hJk'
    simp -implicitDefEqProofs only[↓reduceIte,go_sem,Nat.reduceAdd,Nat.reduceLT,Nat.reduceEqDiff,Nat.reduceBEq,t7]
    refine⟨_,_,an.iter rfl hbk' hlk' hl0 hsb,Hk',by rw[e1,List.length_append];exact hJk',rfl,?_⟩
    simp -implicitDefEqProofs only[↓reduceIte,go_sem,Nat.reduceLT,Nat.reduceEqDiff,reduceCtorEq,t0,t5,t6,hw,Nat.lt_add_one]
   |false=>
    rw[if_neg (by simp)]at hb
    obtain⟨Hk',c,hjx,hbk',hlk',rfl⟩:=hb
    simp -implicitDefEqProofs only[↓reduceIte,go_sem,Nat.reduceLT,Nat.reduceEqDiff]
    exact⟨_,_,an.iter rfl hbk' hlk' hl0 hsb,rfl,.inr ⟨Hk',c,hjx,hlk',rfl⟩⟩
 ·rintro s H' ⟨Hk,hJk,rfl,t0,t5,t6,t7⟩
  rw[List.take_length]at hJk
  simp -implicitDefEqProofs only[↓reduceIte,go_sem,Nat.reduceLT,t6,t7]
  exact⟨_,_,an.refl _ _,rfl,.inl ⟨Hk,by unfold pJ;rw[List.length_map];exact hJk,rfl⟩⟩
theorem fB(gf:FuncId)(caps:List AV)(C:aa→Prop)(l:List ak)(H:aa)(hs:oe Tryz.prog gf caps C (l.map fun v=>[v.av]))(hC:∀T,C (H++T))(hl:l.length≤1000000000):
  ah Tryz.prog 240 [.d (.v (.slice none 0 0)),.fn gf caps] H (.ok (.d (.list false (l.map ak.enc)))) H:=by
 refine ah.aj (hint:=(fun t=>t==2000000)) Tryz.func240 (by kernel_rfl) rfl [4] (by kernel_rfl) (by decide) (by simp[Tryz.ntmps240]) ?_
 rw[Tryz.ntmps240]
 simp -implicitDefEqProofs only[↓reduceIte,go_sem,Nat.reduceAdd,Nat.reduceLT,Nat.reduceEqDiff,Nat.reduceBEq]
 refine jz (fun _=>false) (fun k Hk=>Hk=H++[.box 136 1 0 1 [.sl (H.length+1) k 0 k],.arr 100 3 k ((l.take k).map ak.enc)]) (fun _ _=>False) rfl rfl (an.eg _ _ H.length 136 1 0 1 [.d (.v (.slice none 0 0))] 0 _ 100 3 (by decide) (by simp) rfl rfl) (by simp -implicitDefEqProofs only[↓reduceIte,go_sem,Nat.reduceLT]) hs ?_ ?_ ?_ ?_ ?_ (fun _ _ h=>h.elim)
 ·intro v hv
  obtain⟨u,_,rfl⟩:=List.mem_map.1 hv
  exact⟨rfl,fun w hw=>by rw[List.mem_singleton.1 hw];rfl⟩
 ·simp -implicitDefEqProofs only[go_sem,List.take_zero]
 ·rintro k _ rfl
  exact⟨hC _,by simp -implicitDefEqProofs only[go_sem,Nat.reduceAdd]⟩
 ·rintro k hk _ rfl
  rw[List.length_map]at hk
  have e1:(l.take (k+1)).map ak.enc=(l.take k).map ak.enc++[l[k].enc]:=by rw[List.take_succ_eq_append_getElem hk,List.map_append];rfl
  have hlen:((l.take k).map ak.enc).length=k:=by rw[List.length_map,List.length_take];omega
  rw[e1,List.getElem_map]
  generalize (l.take k).map ak.enc=B at*
  generalize l[k]=v at*
  simp -implicitDefEqProofs only[↓reduceIte,go_sem,ae,aw,Nat.reduceAdd,Nat.reduceLT,Nat.reduceLeDiff,Nat.reduceEqDiff,hlen]
  refine⟨by omega,by omega,?_⟩
  refine uE.cut [.box 136 1 0 1 [.sl (H.length+1) (k+1) 0 (k+1)],.arr 100 3 (k+1) (B++[v.enc])] _ rfl rfl (by simp -implicitDefEqProofs only[go_sem,Nat.reduceAdd]) (by simp -implicitDefEqProofs only[go_sem,Nat.reduceAdd,Nat.reduceLT]) ?_
  rfl
 ·rintro _ rfl
  rw[List.length_map,List.take_length]
  simp -implicitDefEqProofs only[↓reduceIte,go_sem,ae,Nat.reduceAdd,Nat.reduceLT,Nat.reduceEqDiff,Nat.reduceBEq]
  refine ao.ret ?_
  simp -implicitDefEqProofs only[↓reduceIte,go_sem,Nat.reduceLT,List.take_of_length_le (show(l.map ak.enc).length≤l.length by simp)]
theorem kQ(gf:FuncId)(caps:List AV)(C:aa→Prop)(l:List ak)(H:aa)(hs:oe Tryz.prog gf caps C (l.map fun v=>[v.av]))(hC:∀T,C (H++T))(hl:l.length≤1000000000):
  ah Tryz.prog 208 [.fn gf caps] H (.ok (.d (.list false (l.map ak.enc)))) H:=by
 refine ah.aj (hint:=(fun _=>false)) Tryz.func208 (by kernel_rfl) rfl [2] (by kernel_rfl) (by decide) (by simp[Tryz.ntmps208]) ?_
 rw[Tryz.ntmps208]
 simp -implicitDefEqProofs only[↓reduceIte,go_sem,Nat.reduceLT,reduceCtorEq]
 refine ab.ok (fB gf caps C l _ hs hC hl) ?_
 simp -implicitDefEqProofs only[↓reduceIte,go_sem,Nat.reduceLT]
 refine ao.aF ?_
 simp -implicitDefEqProofs only[↓reduceIte,go_sem,Nat.reduceLT]
def dL(l:List ak):List Bool:=l.map fun v=>decide (v.kind=0)
theorem tw(l:List ak)(v:ak):dL (l++[v])=dL l++[decide (v.kind=0)]:=by simp[dL]
theorem kh(l:List ak):(dL l).length=l.length:=by simp[dL]
theorem vQ(l:List ak)(hl:l.length≤1000000000)(H:aa):ah Tryz.prog 123 [.d (.list false (l.map ak.enc))] H (.ok (.bq [.d (.list false (ir (dL l))),.d (.list false ((bY l).map ak.enc))])) H:=by
 refine ah.aj (hint:=(fun t=>t==2000000)) Tryz.func123 (by kernel_rfl) rfl [2,3] (by kernel_rfl) (by decide) (by simp[Tryz.ntmps123]) ?_
 rw[Tryz.ntmps123]
 simp -implicitDefEqProofs only[↓reduceIte,go_sem,Nat.reduceAdd,Nat.reduceLT,Nat.reduceBEq,reduceCtorEq]
 refine bf (fun k s H'=>H'=H++[.arr 4 1 k (ir (dL (l.take k)))]∧s 0= .d (.list false (l.map ak.enc))∧s 4= .sl H.length k 0 k∧s 9= .d (.list false (l.map ak.enc))∧s 10=iA l.length∧s 11=iA k) l.length (by omega) (an.fy _ _ 4 4 1 (by decide) (by simp -implicitDefEqProofs only[↓reduceIte,go_sem,Nat.reduceLT,Nat.reduceEqDiff]) _) ?_ ?_ ?_
 ·refine⟨rfl,?_⟩
  simp -implicitDefEqProofs only[↓reduceIte,go_sem,Nat.reduceLT,Nat.reduceEqDiff,reduceCtorEq]
 ·rintro k s H' hk hw ⟨rfl,t0,t4,t9,t10,t11⟩
  have hx:(l.map ak.enc)[k]?=some [.v (.int .i64 l[k].kind),.v (.int .i64 l[k].i),.v (.string l[k].s)]:=by rw[List.getElem?_map,List.getElem?_eq_getElem hk];rfl
  have e1:=tw (l.take k) l[k]
  rw[←List.take_succ_eq_append_getElem hk]at e1
  have hml:(dL (l.take k)).length=k:=by rw[kh,List.length_take];omega
  rw[e1]
  generalize dL (l.take k)=B at*
  generalize l[k]=v at*
  generalize hdv:decide (v.kind=0)=dv at*
  simp -implicitDefEqProofs only[↓reduceIte,go_sem,ae,aw,Nat.reduceAdd,Nat.reduceLT,Nat.reduceLeDiff,Nat.reduceEqDiff,Nat.reduceBEq,t4,t9,t10,t11,hk,hx,hdv,pU,hml,wg]
  refine⟨by omega,by omega,?_⟩
  refine cO.cut [.arr 4 1 (k+1) (ir (B++[dv]))] _ 1 rfl rfl (by simp -implicitDefEqProofs only[go_sem]) ?_
  refine⟨rfl,?_⟩
  simp -implicitDefEqProofs only[↓reduceIte,go_sem,Nat.reduceLT,Nat.reduceEqDiff,reduceCtorEq,t0,t9,t10,hw]
 ·rintro s H' ⟨rfl,t0,t4,t9,t10,t11⟩
  rw[List.take_length]
  simp -implicitDefEqProofs only[↓reduceIte,go_sem,Nat.reduceAdd,Nat.reduceLT,Nat.reduceBEq,reduceCtorEq,t0,t10,t11]
  refine ab.ok (zm l _) ?_
  simp -implicitDefEqProofs only[go_sem,Nat.reduceAdd]
  have hsq:=BW l (H.length+2) (by omega)
  have hfl:(bY l).length≤l.length:=List.length_filter_le _ _
  unfold pJ at hsq
  generalize bY l=L at*
  have hBl:(ir (dL l)).length≤l.length:=by rw[pU,kh];exact Nat.le_refl _
  generalize ir (dL l)=B at*
  refine jz (fun _=>false) (fun k Hk=>Hk=H++[.arr 4 1 l.length B,.box 136 1 0 1 [.sl (H.length+3) k 0 k],lB l,.arr 100 3 k ((L.take k).map ak.enc)]) (fun _ _=>False) rfl rfl (an.eg _ _ (H.length+1) 136 1 0 1 [.d (.v (.slice none 0 0))] 0 _ 100 3 (by decide) (by simp -implicitDefEqProofs only[go_sem]) rfl rfl) (by simp -implicitDefEqProofs only[↓reduceIte,go_sem,Nat.reduceLT]) hsq ?_ ?_ ?_ ?_ ?_ (fun _ _ h=>h.elim)
  ·intro v hv
   obtain⟨u,_,rfl⟩:=List.mem_map.1 hv
   exact⟨rfl,fun w hw=>by rw[List.mem_singleton.1 hw];rfl⟩
  ·simp -implicitDefEqProofs only[go_sem,Nat.reduceAdd,List.take_zero]
  ·rintro k _ rfl
   exact⟨by simp -implicitDefEqProofs only[go_sem],by simp -implicitDefEqProofs only[go_sem,Nat.reduceAdd]⟩
  ·rintro k hk _ rfl
   rw[List.length_map]at hk
   have e1:(L.take (k+1)).map ak.enc=(L.take k).map ak.enc++[L[k].enc]:=by rw[List.take_succ_eq_append_getElem hk,List.map_append];rfl
   have hlen:((L.take k).map ak.enc).length=k:=by rw[List.length_map,List.length_take];omega
   rw[e1,List.getElem_map]
   generalize (L.take k).map ak.enc=E at*
   generalize L[k]=v at*
   simp -implicitDefEqProofs only[↓reduceIte,go_sem,ae,aw,Nat.reduceAdd,Nat.reduceLT,Nat.reduceLeDiff,Nat.reduceEqDiff,hlen]
   refine⟨by omega,by omega,?_⟩
   refine uE.cut [.arr 4 1 l.length B,.box 136 1 0 1 [.sl (H.length+3) (k+1) 0 (k+1)],lB l,.arr 100 3 (k+1) (E++[v.enc])] _ rfl rfl (by simp -implicitDefEqProofs only[go_sem,Nat.reduceAdd]) (by simp -implicitDefEqProofs only[go_sem,Nat.reduceAdd,Nat.reduceLT]) ?_
   rfl
  ·rintro _ rfl
   rw[List.length_map,List.take_length]
   simp -implicitDefEqProofs only[go_sem,Nat.reduceAdd,Nat.reduceBEq]
   refine aR K.mixed (by kernel_rfl) ?_
   simp -implicitDefEqProofs only[↓reduceIte,go_sem,ae,Nat.reduceLT,Nat.reduceEqDiff,t4]
   refine ao.ret ?_
   simp -implicitDefEqProofs only[↓reduceIte,go_sem,Nat.reduceLT,Nat.reduceEqDiff,List.take_of_length_le (show(L.map ak.enc).length≤L.length by simp),List.take_of_length_le hBl]
structure Sg where
 kind:Int
 CV:Int
 ew:Zn
 cj:List Bool
 body:List Nat
deriving DecidableEq
def Sg.cs(s:Sg):List AV:=[iA s.kind,iA s.CV,iA s.ew.rows,iA s.ew.cj,iA s.ew.mn.kind,iA s.ew.mn.i,sA s.ew.mn.s,iA s.ew.mx.kind,iA s.ew.mx.i,sA s.ew.mx.s,.d (.list false (ir s.cj)),.d (.list false (dx s.body))]
def jD:Zn:=⟨0,0,⟨0,0,iv⟩,⟨0,0,iv⟩⟩
def GA:Sg:=⟨0,0,jD,[],[]⟩
def pa:List AV:=[iA 0,iA 0,iA 0,iA 0,iA 0,iA 0,sA iv,iA 0,iA 0,sA iv,.d (.v (.slice none 0 0)),.d (.v (.slice none 0 0))]
theorem qz:Sub (.agg pa) (.agg GA.cs):=
 .agg (.cons (.refl _) (.cons (.refl _) (.cons (.refl _) (.cons (.refl _) (.cons (.refl _) (.cons (.refl _) (.cons (.refl _) (.cons (.refl _) (.cons (.refl _) (.cons (.refl _) (.cons .nil (.cons .nil .nil))))))))))))
def iU(l:List ak)(k w:Int):Int:=if w=0 then so (bY l) k else w
def pn(l:List ak):List Bool:=if(bY l).length=l.length then[]else dL l
def jK(l:List ak)(k w:Int):Sg×Int:=
 if bg (bY l) k≠0 then(GA,bg (bY l) k)
 else if 4096<l.length then(GA,2)
 else if(iM (bY l) k (iU l k w)).2≠0 then(GA,(iM (bY l) k (iU l k w)).2)
 else(⟨k,iU l k w,n6 l,pn l,(iM (bY l) k (iU l k w)).1⟩,0)
theorem xA(l:List ak)(k w:Int)(hok:∀v∈l,fV v.i)(hl:l.length≤1000000000)(H:aa):
  ah Tryz.prog 76 [.d (.list false (l.map ak.enc)),iA k,iA w] H (.ok (.bq [.agg (jK l k w).1.cs,iA (jK l k w).2])) H:=by
 have hs:=fun H=>vQ l hl H
 have hfl:(bY l).length≤l.length:=List.length_filter_le _ _
 have hok2:∀v∈bY l,fV v.i:=fun v hv=>hok v ((List.mem_filter.1 hv).1)
 have hc:=fun H=>db (bY l) k false H (by omega)
 have hbe:=fun H=>zc (bY l) k hok2 (by omega) H
 have hbo:=fun H=>pD (bY l) k (iU l k w) hok2 (by omega) H
 have hzo:=fun H=>xJ l false hl H
 unfold jK pn
 have hw0:w=0→iU l k w=so (bY l) k:=fun h=>if_pos h
 have hw1:w≠0→iU l k w=w:=fun h=>if_neg h
 generalize iU l k w=w' at*
 generalize so (bY l) k=be at*
 generalize iM (bY l) k w'=bo at*
 obtain⟨bb,e⟩:=bo
 simp only at hbo⊢
 generalize n6 l=z at*
 generalize bg (bY l) k=pe at*
 have hol:((dL l).length=l.length):=kh l
 generalize dL l=ns at*
 generalize bY l=L at*
 by_cases hpe:pe≠0
 ·rw[if_pos hpe]
  refine ah.jW (cs:=[.agg pa,iA pe]) ?_ (.cons qz (.cons (.refl _) .nil))
  refine ah.cG (hint:=fun _=>false) Tryz.func76 (by kernel_rfl) rfl [.cell 6 113,.tmp 7] (by kernel_rfl) (by simp[Tryz.ntmps76]) ?_
  rw[Tryz.ntmps76]
  simp -implicitDefEqProofs only[↓reduceIte,go_sem,Nat.reduceLT,reduceCtorEq]
  refine ab.ok (hs _) ?_
  simp -implicitDefEqProofs only[↓reduceIte,go_sem,Nat.reduceLT,Nat.reduceEqDiff]
  refine ab.ok (hc _) ?_
  simp -implicitDefEqProofs only[↓reduceIte,go_sem,aw,Nat.reduceAdd,Nat.reduceLT,Nat.reduceEqDiff,hpe]
  refine cY.ret ?_
  simp -implicitDefEqProofs only[↓reduceIte,go_sem,ae,Nat.reduceAdd,Nat.reduceLT,Nat.reduceLeDiff,Nat.reduceEqDiff,bR,cZ,pa,iv]
 rw[if_neg hpe]
 obtain rfl:pe=0:=by simpa using hpe
 by_cases h4:4096<l.length
 ·rw[if_pos h4]
  refine ah.jW (cs:=[.agg pa,iA 2]) ?_ (.cons qz (.cons (.refl _) .nil))
  refine ah.cG (hint:=fun _=>false) Tryz.func76 (by kernel_rfl) rfl [.cell 6 113,.tmp 7] (by kernel_rfl) (by simp[Tryz.ntmps76]) ?_
  rw[Tryz.ntmps76]
  simp -implicitDefEqProofs only[↓reduceIte,go_sem,Nat.reduceLT,reduceCtorEq]
  refine ab.ok (hs _) ?_
  simp -implicitDefEqProofs only[↓reduceIte,go_sem,Nat.reduceLT,Nat.reduceEqDiff]
  refine ab.ok (hc _) ?_
  simp -implicitDefEqProofs only[↓reduceIte,go_sem,aw,Nat.reduceAdd,Nat.reduceLT,Nat.reduceEqDiff,reduceCtorEq,List.length_map,show((4096:Int)<(l.length:Int))=True from eq_true (by omega)]
  refine cY.ret ?_
  simp -implicitDefEqProofs only[↓reduceIte,go_sem,ae,Nat.reduceAdd,Nat.reduceLT,Nat.reduceLeDiff,Nat.reduceEqDiff,bR,cZ,pa,iv]
 rw[if_neg h4]
 have h4f:((4096:Int)<(l.length:Int))=False:=eq_false (by omega)
 by_cases he:e≠0
 ·rw[if_pos he]
  refine ah.jW (cs:=[.agg pa,iA e]) ?_ (.cons qz (.cons (.refl _) .nil))
  by_cases hw:w=0
  ·obtain rfl:=hw0 hw
   refine ah.cG (hint:=fun _=>false) Tryz.func76 (by kernel_rfl) rfl [.cell 6 113,.tmp 7] (by kernel_rfl) (by simp[Tryz.ntmps76]) ?_
   rw[Tryz.ntmps76]
   simp -implicitDefEqProofs only[↓reduceIte,go_sem,Nat.reduceLT,reduceCtorEq]
   refine ab.ok (hs _) ?_
   simp -implicitDefEqProofs only[↓reduceIte,go_sem,Nat.reduceLT,Nat.reduceEqDiff]
   refine ab.ok (hc _) ?_
   simp -implicitDefEqProofs only[↓reduceIte,go_sem,Nat.reduceLT,Nat.reduceEqDiff,reduceCtorEq,List.length_map,h4f,hw]
   refine ab.ok (hbe _) ?_
   simp -implicitDefEqProofs only[↓reduceIte,go_sem,Nat.reduceLT,Nat.reduceEqDiff]
   refine ab.ok (hbo _) ?_
   simp -implicitDefEqProofs only[↓reduceIte,go_sem,aw,Nat.reduceAdd,Nat.reduceLT,Nat.reduceEqDiff,he]
   refine cY.ret ?_
   simp -implicitDefEqProofs only[↓reduceIte,go_sem,ae,Nat.reduceAdd,Nat.reduceLT,Nat.reduceLeDiff,Nat.reduceEqDiff,bR,cZ,pa,iv]
  ·obtain rfl:=hw1 hw
   refine ah.cG (hint:=fun _=>false) Tryz.func76 (by kernel_rfl) rfl [.cell 6 113,.tmp 7] (by kernel_rfl) (by simp[Tryz.ntmps76]) ?_
   rw[Tryz.ntmps76]
   simp -implicitDefEqProofs only[↓reduceIte,go_sem,Nat.reduceLT,reduceCtorEq]
   refine ab.ok (hs _) ?_
   simp -implicitDefEqProofs only[↓reduceIte,go_sem,Nat.reduceLT,Nat.reduceEqDiff]
   refine ab.ok (hc _) ?_
   simp -implicitDefEqProofs only[↓reduceIte,go_sem,Nat.reduceLT,Nat.reduceEqDiff,reduceCtorEq,List.length_map,h4f,hw]
   refine ab.ok (hbo _) ?_
   simp -implicitDefEqProofs only[↓reduceIte,go_sem,aw,Nat.reduceAdd,Nat.reduceLT,Nat.reduceEqDiff,he]
   refine cY.ret ?_
   simp -implicitDefEqProofs only[↓reduceIte,go_sem,ae,Nat.reduceAdd,Nat.reduceLT,Nat.reduceLeDiff,Nat.reduceEqDiff,bR,cZ,pa,iv]
 rw[if_neg he]
 obtain rfl:e=0:=by simpa using he
 by_cases hn:L.length=l.length
 ·have hnt:((L.length:Int)=(l.length:Int))=True:=eq_true (by omega)
  rw[if_pos hn]
  refine ah.jW (cs:=[.agg [iA k,iA w',iA z.rows,iA z.cj,iA z.mn.kind,iA z.mn.i,sA z.mn.s,iA z.mx.kind,iA z.mx.i,sA z.mx.s,.d (.v (.slice none 0 0)),.d (.list false (dx bb))],iA 0]) ?_
   (.cons (.agg (.cons (.refl _) (.cons (.refl _) (.cons (.refl _) (.cons (.refl _) (.cons (.refl _) (.cons (.refl _) (.cons (.refl _) (.cons (.refl _) (.cons (.refl _) (.cons (.refl _) (.cons .nil (.cons (.refl _) .nil))))))))))))) (.cons (.refl _) .nil))
  by_cases hw:w=0
  ·obtain rfl:=hw0 hw
   refine ah.cG (hint:=fun _=>false) Tryz.func76 (by kernel_rfl) rfl [.cell 6 113,.tmp 7] (by kernel_rfl) (by simp[Tryz.ntmps76]) ?_
   rw[Tryz.ntmps76]
   simp -implicitDefEqProofs only[↓reduceIte,go_sem,Nat.reduceLT,reduceCtorEq]
   refine ab.ok (hs _) ?_
   simp -implicitDefEqProofs only[↓reduceIte,go_sem,Nat.reduceLT,Nat.reduceEqDiff]
   refine ab.ok (hc _) ?_
   simp -implicitDefEqProofs only[↓reduceIte,go_sem,Nat.reduceLT,Nat.reduceEqDiff,reduceCtorEq,List.length_map,h4f,hw]
   refine ab.ok (hbe _) ?_
   simp -implicitDefEqProofs only[↓reduceIte,go_sem,Nat.reduceLT,Nat.reduceEqDiff]
   refine ab.ok (hbo _) ?_
   simp -implicitDefEqProofs only[↓reduceIte,go_sem,Nat.reduceLT,Nat.reduceEqDiff,reduceCtorEq,List.length_map,hnt]
   refine ab.ok (hzo _) ?_
   simp -implicitDefEqProofs only[↓reduceIte,go_sem,aw,Nat.reduceAdd,Nat.reduceLT,Nat.reduceLeDiff,Nat.reduceEqDiff,Zn.cs]
   refine cY.ret ?_
   simp -implicitDefEqProofs only[↓reduceIte,go_sem,ae,Nat.reduceAdd,Nat.reduceLT,Nat.reduceLeDiff,Nat.reduceEqDiff,bR,cZ]
  ·obtain rfl:=hw1 hw
   refine ah.cG (hint:=fun _=>false) Tryz.func76 (by kernel_rfl) rfl [.cell 6 113,.tmp 7] (by kernel_rfl) (by simp[Tryz.ntmps76]) ?_
   rw[Tryz.ntmps76]
   simp -implicitDefEqProofs only[↓reduceIte,go_sem,Nat.reduceLT,reduceCtorEq]
   refine ab.ok (hs _) ?_
   simp -implicitDefEqProofs only[↓reduceIte,go_sem,Nat.reduceLT,Nat.reduceEqDiff]
   refine ab.ok (hc _) ?_
   simp -implicitDefEqProofs only[↓reduceIte,go_sem,Nat.reduceLT,Nat.reduceEqDiff,reduceCtorEq,List.length_map,h4f,hw]
   refine ab.ok (hbo _) ?_
   simp -implicitDefEqProofs only[↓reduceIte,go_sem,Nat.reduceLT,Nat.reduceEqDiff,reduceCtorEq,List.length_map,hnt]
   refine ab.ok (hzo _) ?_
   simp -implicitDefEqProofs only[↓reduceIte,go_sem,aw,Nat.reduceAdd,Nat.reduceLT,Nat.reduceLeDiff,Nat.reduceEqDiff,Zn.cs]
   refine cY.ret ?_
   simp -implicitDefEqProofs only[↓reduceIte,go_sem,ae,Nat.reduceAdd,Nat.reduceLT,Nat.reduceLeDiff,Nat.reduceEqDiff,bR,cZ]
 ·have hnt:((L.length:Int)=(l.length:Int))=False:=eq_false (by omega)
  rw[if_neg hn]
  by_cases hw:w=0
  ·obtain rfl:=hw0 hw
   refine ah.cG (hint:=fun _=>false) Tryz.func76 (by kernel_rfl) rfl [.cell 6 113,.tmp 7] (by kernel_rfl) (by simp[Tryz.ntmps76]) ?_
   rw[Tryz.ntmps76]
   simp -implicitDefEqProofs only[↓reduceIte,go_sem,Nat.reduceLT,reduceCtorEq]
   refine ab.ok (hs _) ?_
   simp -implicitDefEqProofs only[↓reduceIte,go_sem,Nat.reduceLT,Nat.reduceEqDiff]
   refine ab.ok (hc _) ?_
   simp -implicitDefEqProofs only[↓reduceIte,go_sem,Nat.reduceLT,Nat.reduceEqDiff,reduceCtorEq,List.length_map,h4f,hw]
   refine ab.ok (hbe _) ?_
   simp -implicitDefEqProofs only[↓reduceIte,go_sem,Nat.reduceLT,Nat.reduceEqDiff]
   refine ab.ok (hbo _) ?_
   simp -implicitDefEqProofs only[↓reduceIte,go_sem,Nat.reduceLT,Nat.reduceEqDiff,reduceCtorEq,List.length_map,hnt]
   refine ab.ok (hzo _) ?_
   simp -implicitDefEqProofs only[↓reduceIte,go_sem,aw,Nat.reduceAdd,Nat.reduceLT,Nat.reduceLeDiff,Nat.reduceEqDiff,Zn.cs]
   refine cY.ret ?_
   simp -implicitDefEqProofs only[↓reduceIte,go_sem,ae,Nat.reduceAdd,Nat.reduceLT,Nat.reduceLeDiff,Nat.reduceEqDiff,bR,cZ,Sg.cs]
  ·obtain rfl:=hw1 hw
   refine ah.cG (hint:=fun _=>false) Tryz.func76 (by kernel_rfl) rfl [.cell 6 113,.tmp 7] (by kernel_rfl) (by simp[Tryz.ntmps76]) ?_
   rw[Tryz.ntmps76]
   simp -implicitDefEqProofs only[↓reduceIte,go_sem,Nat.reduceLT,reduceCtorEq]
   refine ab.ok (hs _) ?_
   simp -implicitDefEqProofs only[↓reduceIte,go_sem,Nat.reduceLT,Nat.reduceEqDiff]
   refine ab.ok (hc _) ?_
   simp -implicitDefEqProofs only[↓reduceIte,go_sem,Nat.reduceLT,Nat.reduceEqDiff,reduceCtorEq,List.length_map,h4f,hw]
   refine ab.ok (hbo _) ?_
   simp -implicitDefEqProofs only[↓reduceIte,go_sem,Nat.reduceLT,Nat.reduceEqDiff,reduceCtorEq,List.length_map,hnt]
   refine ab.ok (hzo _) ?_
   simp -implicitDefEqProofs only[↓reduceIte,go_sem,aw,Nat.reduceAdd,Nat.reduceLT,Nat.reduceLeDiff,Nat.reduceEqDiff,Zn.cs]
   refine cY.ret ?_
   simp -implicitDefEqProofs only[↓reduceIte,go_sem,ae,Nat.reduceAdd,Nat.reduceLT,Nat.reduceLeDiff,Nat.reduceEqDiff,bR,cZ,Sg.cs]
def Sg.ds(s:Sg):List D:=[iD s.kind,iD s.CV,iD s.ew.rows,iD s.ew.cj,iD s.ew.mn.kind,iD s.ew.mn.i,.v (.string s.ew.mn.s),iD s.ew.mx.kind,iD s.ew.mx.i,.v (.string s.ew.mx.s),.list false (ir s.cj),.list false (dx s.body)]
structure Pj where
 aE:List Int
 key:List Int
 rows:Nat
 bk:List (List Sg)
deriving DecidableEq
def bC(S:List (List Sg)):List (List D):=S.map fun l=>[.list false (l.map Sg.ds)]
theorem cV(S:List (List Sg)):(bC S).length=S.length:=by simp[bC]
def Pj.ds(p:Pj):List D:=[.list false (ints p.aE),.list false (ints p.key),iD p.rows,.list false (bC p.bk)]
def Pj.av(p:Pj):AV:= .agg (p.ds.map .d)
def Ga:Pj:=⟨[],[],0,[]⟩
def ea:List AV:=[.d (.v (.slice none 0 0)),.d (.v (.slice none 0 0)),iA 0,.d (.v (.slice none 0 0))]
theorem mQ:Sub (.agg ea) Ga.av:= .agg (.cons .nil (.cons .nil (.cons (.refl _) (.cons .nil .nil))))
def iC(c:Int)(R:List (List ak)):List ak:=R.map fun r=>gn r c
def bj(Q:List (List ak))(ks:List Int)(w c:Int):List (Sg×Int):=(oQ Q).map fun p=>jK (iC c p) (ks.getD c.toNat 0) w
def j3(l:List Int):Int:=(l.find? fun e=>decide (e≠0)).getD 0
def su(ks cs key:List Int):Prop:=cs.length=0∨8<key.length∨dr cs ks.length=false∨dr key ks.length=false∨¬cs.Nodup
instance (ks cs key:List Int):Decidable (su ks cs key):=by unfold su;infer_instance
def jc(Q:List (List ak))(ks cs:List Int)(w:Int):Int:=j3 (cs.flatMap fun c=>(bj Q ks w c).map (·.2))
def ev(Q:List (List ak))(ks cs:List Int)(w:Int):List (List Sg):=cs.map fun c=>(bj Q ks w c).map (·.1)
def ku(R:List (List ak))(ks cs key:List Int)(w:Int):Pj×Int:=
 if cX R ks≠0 then(Ga,cX R ks)
 else if su ks cs key then(Ga,1)
 else if jc (oy R key) ks cs w≠0 then(Ga,jc (oy R key) ks cs w)
 else(⟨cs,key,R.length,ev (oy R key) ks cs w⟩,0)
theorem uX{l m:List Int}{e:Int}(h:∀x∈l,x=0)(he:e≠0):j3 (l++e::m)=e:=by
 unfold j3
 rw[List.find?_append,List.find?_eq_none.2 (fun x hx=>by simp[h x hx])]
 simp[he]
theorem sr{l:List Int}(h:∀x∈l,x=0):j3 l=0:=by
 unfold j3
 rw[List.find?_eq_none.2 (fun x hx=>by simp[h x hx])]
 rfl
theorem kM(l:List Int)(H:aa)(hl:l.length≤1000000000000):ah Tryz.prog 73 [.d (.list true (ints l))] H (.ok (.d (.list false (ints l)))) H:=by
 refine ah.aj (hint:=(fun _=>false)) Tryz.func73 (by kernel_rfl) rfl [2] (by kernel_rfl) (by decide) (by simp[Tryz.ntmps73]) ?_
 rw[Tryz.ntmps73]
 simp -implicitDefEqProofs only[↓reduceIte,go_sem,Nat.reduceLT,Nat.reduceEqDiff,reduceCtorEq,nT,az]
 refine⟨by omega,by omega,ao.ret ?_⟩
 simp -implicitDefEqProofs only[↓reduceIte,go_sem,Nat.reduceLT,cN,az]
theorem mc(l:List Int)(n1:Bool)(H:aa)(hl:l.length≤1000000000000):ah Tryz.prog 73 [.d (.list n1 (ints l))] H (.ok (.d (.list false (ints l)))) H:=by
 cases n1 with
 |true=>exact kM l H hl
 |false=>
  cases l with
  |cons a l=>exact ec _ false H (by simp) hl
  |nil=>
   refine ah.nN [] [] ?_ (kM [] H (by simp))
   have:=(dk H).Eo .nil
   exact this
theorem uh(R:List (List ak))(ks cs key:List Int)(w:Int)(n0 n1 n2 n3:Bool)(H:aa)(hR:R.length≤1000000000)(hr:∀r∈R,r.length≤1000000000)(hk:ks.length≤100000000000000)(he:cX R ks≠0):
  ah Tryz.prog 34 [.d (.list n0 (b9 R)),.d (.list n1 (ints ks)),.d (.list n2 (ints cs)),.d (.list n3 (ints key)),iA w] H (.ok (.bq [.agg ea,iA (cX R ks)])) H:=by
 have hc:=fun H=>jo R ks n0 n1 H (by omega) (fun r h=>by have:=hr r h;omega) (by omega)
 generalize cX R ks=e at*
 refine ah.cG (hint:=fun _=>false) Tryz.func34 (by kernel_rfl) rfl [.cell 10 36,.cell 11 68] (by kernel_rfl) (by simp[Tryz.ntmps34]) ?_
 rw[Tryz.ntmps34]
 simp -implicitDefEqProofs only[↓reduceIte,go_sem,ae,Nat.reduceAdd,Nat.reduceLT,Nat.reduceEqDiff,reduceCtorEq]
 refine ab.ok (hc _) ?_
 simp -implicitDefEqProofs only[↓reduceIte,go_sem,aw,Nat.reduceAdd,Nat.reduceLT,Nat.reduceEqDiff,he]
 refine cY.ret ?_
 simp -implicitDefEqProofs only[↓reduceIte,go_sem,ae,Nat.reduceAdd,Nat.reduceLT,Nat.reduceLeDiff,Nat.reduceEqDiff,reduceCtorEq,bR,cZ,ea]
theorem sn(R:List (List ak))(ks cs key:List Int)(w:Int)(n0 n1 n2 n3:Bool)(H:aa)(hR:R.length≤1000000000)(hr:∀r∈R,r.length≤1000000000)(hk:ks.length≤1000000000)(hcl:cs.length≤1000000000)(hkl:key.length≤1000000000)(he:cX R ks=0)(hb:su ks cs key):
  ah Tryz.prog 34 [.d (.list n0 (b9 R)),.d (.list n1 (ints ks)),.d (.list n2 (ints cs)),.d (.list n3 (ints key)),iA w] H (.ok (.bq [.agg ea,iA 1])) H:=by
 have hc:=fun H=>jo R ks n0 n1 H (by omega) (fun r h=>by have:=hr r h;omega) (by omega)
 have hw1:=fun H=>fS cs n2 ks.length H (by omega)
 have hw2:=fun H=>fS key n3 ks.length H (by omega)
 have ho:=fun H=>CI.pQ n2 cs H hcl
 unfold su at hb
 generalize dr cs ks.length=b1 at*
 generalize dr key ks.length=b2 at*
 have hcn:decide cs.Nodup=false↔¬cs.Nodup:=by simp
 rw[←hcn]at hb
 generalize decide cs.Nodup=b3 at*
 rw[he]at hc
 refine ah.cG (hint:=fun _=>false) Tryz.func34 (by kernel_rfl) rfl [.cell 10 36,.cell 11 68] (by kernel_rfl) (by simp[Tryz.ntmps34]) ?_
 rw[Tryz.ntmps34]
 simp -implicitDefEqProofs only[↓reduceIte,go_sem,ae,Nat.reduceAdd,Nat.reduceLT,Nat.reduceEqDiff,reduceCtorEq]
 refine ab.ok (hc _) ?_
 by_cases h1:cs.length=0
 case' pos=>simp -implicitDefEqProofs only[↓reduceIte,go_sem,aw,Nat.reduceAdd,Nat.reduceLT,Nat.reduceEqDiff,az,h1]
 case' neg=>
  by_cases h2:8<key.length
  case' pos=>simp -implicitDefEqProofs only[↓reduceIte,go_sem,aw,Nat.reduceAdd,Nat.reduceLT,Nat.reduceEqDiff,reduceCtorEq,az,show ¬((cs.length:Int)=0) by omega,show(8:Int)<key.length by omega]
  case' neg=>
   simp -implicitDefEqProofs only[↓reduceIte,go_sem,ae,Nat.reduceLT,Nat.reduceEqDiff,reduceCtorEq,az,show ¬((cs.length:Int)=0) by omega,show ¬(8:Int)<key.length by omega]
   refine ab.ok (hw1 _) ?_
   cases b1
   case' false=>simp -implicitDefEqProofs only[↓reduceIte,go_sem,aw,Nat.reduceAdd,Nat.reduceLT,Nat.reduceEqDiff,reduceCtorEq]
   case' true=>
    simp -implicitDefEqProofs only[↓reduceIte,go_sem,ae,Nat.reduceLT,Nat.reduceEqDiff,reduceCtorEq,az]
    refine ab.ok (hw2 _) ?_
    cases b2
    case' false=>simp -implicitDefEqProofs only[↓reduceIte,go_sem,aw,Nat.reduceAdd,Nat.reduceLT,Nat.reduceEqDiff,reduceCtorEq]
    case' true=>
     simp -implicitDefEqProofs only[↓reduceIte,go_sem,Nat.reduceLT,Nat.reduceEqDiff,reduceCtorEq]
     refine ab.ok (ho _) ?_
     cases b3
     case' false=>simp -implicitDefEqProofs only[↓reduceIte,go_sem,aw,Nat.reduceAdd,Nat.reduceLT,Nat.reduceEqDiff,reduceCtorEq]
     case true=>rcases hb with h|h|h|h|h<;>first|exact absurd h h1|exact absurd h h2|cases h
 all_goals
  refine cY.ret ?_
  simp -implicitDefEqProofs only[↓reduceIte,go_sem,ae,Nat.reduceAdd,Nat.reduceLT,Nat.reduceLeDiff,Nat.reduceEqDiff,reduceCtorEq,bR,cZ,ea]
end Go.Proofs.YtggohfhfocgilaaGreat
namespace Go.Proofs.YtggohfhfocgilaaGreatAw
open Go.RowKit
section
variable (P:Program) (hint:Nat→Bool) (n:Nat) (ops:Array Oper) (a p:Nat) (bx:aA) (B:aa)
def eT(o:Oper)(H:aa):Prop:=∃e z k b e',o.op= .alloc e∧o.guard=none∧TI P e=some (z,k,b)∧(0<k∧z.cells.size=k∧z.cells.all Value.oneCell'=true)∧hintOf hint o.dst=true∧bx= .box e k 1 1 (bE z.cells)∧H[p]?=some (.arr e' k 0 [])
def aZ(Q:aQ):Nat→List (Option Bool)→List Oper→(Nat→AV)→aa→Prop
 |_,[],l,s,H=>aM P hint n ops Q l s H
 |_,_::_,[],s,H=>aM P hint n ops Q [] s H
 |i,b::bs,o::rest,s,H=>if i=a then eT P hint p bx o H∧aZ Q (i+1) bs rest (bl n s o.dst (.ptr p 1 0 0)) (H.set p bx)else match b with
  |some false=>cy P hint n ops (fun _ _ _=>False) o (fun s' H'=>H'=H∧aZ Q (i+1) bs rest s' H') s H
  |none=>cy P hint n ops (fun _ _ _=>False) o (fun s' H'=>H'=B∧aZ Q (i+1) bs rest s' H) s B
  |some true=>o.guard=none∧(if i<a then aB P hint s H o (fun r H'=>aB P hint s (H.set p bx) o (fun r' H''=>r'=r∧H''=H'.set p bx∧H'[p]?=H[p]?∧Ext B H'∧aZ Q (i+1) bs rest (bl n s o.dst r) H') (fun _ _=>False)) (fun _ _=>False)
    else aB P hint s H o (fun r H'=>Ext B H'∧aZ Q (i+1) bs rest (bl n s o.dst r) H') (fun _ _=>False))
end
section
variable {P:Program} {hint:Nat→Bool} {n:Nat} {ops:Array Oper} {Q:aQ} {a p:Nat} {bx:aA} {B:aa}
def te(P:Program)(hint:Nat→Bool)(n:Nat)(ops:Array Oper)(a p:Nat)(bx:aA)(B:aa)(b:Option Bool)(i:Nat)(o:Oper)(s:Nat→AV)(r:AV)(H H':aa):Prop:=
 if i=a then eT P hint p bx o H∧r= .ptr p 1 0 0∧H'=H.set p bx else match b with
 |some false=>bP P hint n ops H s o r H∧H'=H
 |none=>bP P hint n ops B s o r B∧H'=H
 |some true=>bP P hint n ops H s o r H'∧Ext B H'∧(i<a→bP P hint n ops (H.set p bx) s o r (H'.set p bx)∧H'[p]?=H[p]?)
theorem gL{H H':aa}{s:Nat→AV}{o:Oper}{r:AV}(hg:o.guard=none)(h:∀K KP,K r H'→aB P hint s H o K KP):bP P hint n ops H s o r H':=by
 unfold bP
 rw[hg]
 exact h
theorem jT(hdt:∀(i:Nat) (o:Oper),ops[i]?=some o→jg hint o.op=true)(s0:Nat→AV):∀(bs:List (Option Bool)) (k:Nat) (rs0:Nat→AV) (hp0:Nat→aa),k+bs.length≤ops.size→aZ P hint n ops a p bx B Q k bs (ops.toList.drop k) (a8 n ops s0 rs0 k) (hp0 k)→
  ∃(rs:Nat→AV) (hp:Nat→aa),(∀i,i<k→rs i=rs0 i)∧(∀i,i≤k→hp i=hp0 i)∧
   (∀i o b,k≤i→i<k+bs.length→ops[i]?=some o→bs[i-k]?=some b→te P hint n ops a p bx B b i o (a8 n ops s0 rs i) (rs i) (hp i) (hp (i+1)))∧
   aM P hint n ops Q (ops.toList.drop (k+bs.length)) (a8 n ops s0 rs (k+bs.length)) (hp (k+bs.length))
 |[],k,rs0,hp0,hk,h=>⟨rs0,hp0,fun _ _=>rfl,fun _ _=>rfl,fun i o b h1 h2=>by simp at h2;omega,by
   have h:aM P hint n ops Q (ops.toList.drop k) (a8 n ops s0 rs0 k) (hp0 k):=by
    cases hd:ops.toList.drop k<;>(rw[hd]at h;exact h)
   exact h⟩
 |b::bs,k,rs0,hp0,hk,h=>by
  simp only[List.length_cons]at hk
  have hlt:k<ops.size:=by omega
  have hget:ops[k]?=some ops[k]:=by simp[hlt]
  have hd:ops.toList.drop k=ops[k]::ops.toList.drop (k+1):=by
   rw[List.drop_eq_getElem_cons (by simpa using hlt)];simp
  rw[hd]at h
  have hdst:aY ops k=(ops[k]).dst:=by simp[aY,hget]
  have step:∃r H',te P hint n ops a p bx B b k ops[k] (a8 n ops s0 rs0 k) r (hp0 k) H'∧aZ P hint n ops a p bx B Q (k+1) bs (ops.toList.drop (k+1)) (bl n (a8 n ops s0 rs0 k) (ops[k]).dst r) H':=by
   unfold te
   unfold aZ at h
   by_cases hka:k=a
   ·rw[if_pos hka]at h
    refine⟨.ptr p 1 0 0,(hp0 k).set p bx,?_,h.2⟩
    rw[if_pos hka]
    exact⟨h.1,rfl,rfl⟩
   ·rw[if_neg hka]at h
    simp only[if_neg hka]
    match b,h with
    |some false,h=>
     obtain⟨r,H',h1,rfl,h3⟩:=gO (hdt k _ hget) h
     exact⟨r,_,⟨h1,rfl⟩,h3⟩
    |none,h=>
     obtain⟨r,H',h1,rfl,h3⟩:=gO (hdt k _ hget) h
     exact⟨r,_,⟨h1,rfl⟩,h3⟩
    |some true,⟨hg,h⟩=>
     by_cases hlta:k<a
     ·rw[if_pos hlta]at h
      obtain⟨r,H',h1,h2⟩:=ef (hdt k _ hget) h
      obtain⟨r',H'',⟨rfl,rfl,h3,h4,h5⟩,h6⟩:=ef (hdt k _ hget) h1
      exact⟨r',H',⟨gL hg h2,h4,fun _=>⟨gL hg h6,h3⟩⟩,h5⟩
     ·rw[if_neg hlta]at h
      obtain⟨r,H',⟨h1,h3⟩,h2⟩:=ef (hdt k _ hget) h
      exact⟨r,H',⟨gL hg h2,h1,fun hh=>absurd hh hlta⟩,h3⟩
  obtain⟨r,H',h1,h4⟩:=step
  let rs1:Nat→AV:=fun i=>if i=k then r else rs0 i
  let hp1:Nat→aa:=fun i=>if i=k+1 then H' else hp0 i
  have e1:rs1 k=r:=if_pos rfl
  have e2:hp1 (k+1)=H':=if_pos rfl
  have hst:∀(rs:Nat→AV) i,i≤k→(∀j,j<i→rs j=rs0 j)→a8 n ops s0 rs i=a8 n ops s0 rs0 i:=by
   intro rs i
   induction i with
   |zero=>intros;rfl
   |succ i ih=>
    intro hi hr
    simp only[a8,ih (by omega) fun j hj=>hr j (by omega),hr i (by omega)]
  have h5:aZ P hint n ops a p bx B Q (k+1) bs (ops.toList.drop (k+1)) (a8 n ops s0 rs1 (k+1)) (hp1 (k+1)):=by
   rw[e2]
   simp only[a8,e1,hdst]
   rw[hst rs1 k (Nat.le_refl _) fun j hj=>if_neg (by omega)]
   exact h4
  obtain⟨rs,hp,g1,g2,g3,g4⟩:=jT hdt s0 bs (k+1) rs1 hp1 (by omega) h5
  have f1:∀i,i<k→rs i=rs0 i:=fun i hi=>by rw[g1 i (by omega)];exact if_neg (by omega)
  have f2:∀i,i≤k→hp i=hp0 i:=fun i hi=>by rw[g2 i (by omega)];exact if_neg (by omega)
  have f3:rs k=r:=by rw[g1 k (by omega)];exact e1
  have f4:hp (k+1)=H':=by rw[g2 (k+1) (by omega)];exact e2
  refine⟨rs,hp,f1,f2,fun i o b' hi hi2 ho hb=>?_,by rw[List.length_cons,show k+(bs.length+1)=k+1+bs.length from by omega];exact g4⟩
  rcases Nat.lt_or_ge k i with hki|hki
  ·refine g3 i o b' hki (by simp only[List.length_cons]at hi2;omega) ho ?_
   rwa[show i-k=(i-(k+1))+1 from by omega,List.getElem?_cons_succ]at hb
  ·obtain rfl:i=k:=by omega
   rw[hget]at ho
   cases ho
   rw[Nat.sub_self,List.getElem?_cons_zero]at hb
   cases hb
   rw[f2 i (Nat.le_refl _),f3,f4,hst rs i (Nat.le_refl _) fun j hj=>f1 j hj]
   exact h1
theorem eT.step{o:Oper}{H:aa}{s:Nat→AV}(h:eT P hint p bx o H):bP P hint n ops H s o (.ptr p 1 0 0) (H.set p bx):=by
 obtain⟨e,z,k,b,e',h1,h2,h3,h4,h5,h6,h7⟩:=h
 refine gL h2 fun K KP hk=>?_
 obtain⟨d,op,ty,ps,af,g⟩:=o
 simp only at h1 h2 h5
 subst h1 h2
 rw[ug,h3]
 refine⟨by rw[rk h3];exact h4,?_⟩
 rw[h5]
 exact⟨p,e',h7,by rw[←h6];exact hk⟩
end
def pq(hint:Nat→Bool)(ops:Array Oper)(bs:List (Option Bool))(a:Nat):Bool:=decide (a<bs.length)&&(List.range bs.length).all fun i=>i==a||match bs[i]?,ops[i]? with
 |some (some false),some o=>ju hint false o
 |some none,some o=>ju hint true o
 |some (some true),some _=>(decide (i<a)||ca ops 12 i a)&&(List.range i).all fun c=>c==a||bs[c]?==some (some false)||bs[c]?==some none||ca ops 12 i c
 |_,_=>false
section
variable {P:Program} {hint:Nat→Bool} {n:Nat} {ops:Array Oper} {Q:aQ}
theorem yY(bs:List (Option Bool))(a p:Nat)(bx:aA)(B:aa){H0 H:aa}{id:Nat}{s:Nat→AV}(hm:P.follows .mixedOrders=true)(hc:dA hint ops=true)(ht:dB ops bs.length=true)(hx:pq hint ops bs a=true)(hB:Ext B H)(hBp:∀o,B[p]?=some o→o.live=false)
  (h:aZ P hint n ops a p bx B Q 0 bs ops.toList s H):cq P hint n H0 (.region id ops true) Q s H:=by
 obtain⟨hms,htl⟩:=eU ht
 refine⟨hm,?_⟩
 obtain⟨rs,w,_,g2,g3,g4⟩:=jT (cH hc).GH s bs 0 (fun _=> .top) (fun _=>H) (by omega) h
 have g20:w 0=H:=g2 0 (Nat.le_refl _)
 simp only[Nat.zero_add,Nat.sub_zero,Nat.zero_le,true_implies]at g3 g4
 unfold pq at hx
 rw[Bool.and_eq_true,List.all_eq_true]at hx
 obtain⟨ha,hx⟩:=hx
 have ha:a<bs.length:=by simpa using ha
 have hget:∀i,i<bs.length→∃o,ops[i]?=some o:=fun i hi=>⟨ops[i]'(by omega),by simp[show i<ops.size by omega]⟩
 have hbs:∀i (hi:i<bs.length),bs[i]?=some bs[i]:=fun i hi=>List.getElem?_eq_getElem hi
 let T:Nat→Bool:=fun i=>i !=a&&bs[i]?==some (some true)
 have TT:∀i,T i=true→i≠a∧bs[i]?=some (some true):=fun i h=>by
  have h:(i !=a&&bs[i]?==some (some true))=true:=h
  simpa using h
 have TF:∀i,i<bs.length→i≠a→T i=false→bs[i]?=some (some false)∨bs[i]?=some none:=fun i hi hia h=>by
  have h:(i !=a&&bs[i]?==some (some true))=false:=h
  rw[hbs i hi]at h⊢
  rcases hb:bs[i]with _|_|_
  ·exact .inr rfl
  ·exact .inl rfl
  ·rw[hb]at h;simp[hia]at h
 have say:∀i o,i<bs.length→ops[i]?=some o→te P hint n ops a p bx B bs[i]! i o (a8 n ops s rs i) (rs i) (w i) (w (i+1)):=fun i o hi ho=>g3 i o _ hi ho (by rw[hbs i hi];simp[hi])
 have sayT:∀i o,i<bs.length→ops[i]?=some o→T i=true→bP P hint n ops (w i) (a8 n ops s rs i) o (rs i) (w (i+1))∧Ext B (w (i+1))∧(i<a→bP P hint n ops ((w i).set p bx) (a8 n ops s rs i) o (rs i) ((w (i+1)).set p bx)∧(w (i+1))[p]?=(w i)[p]?):=by
  intro i o hi ho hT
  obtain⟨h1,h2⟩:=TT i hT
  have:=g3 i o _ hi ho h2
  unfold te at this
  rwa[if_neg h1]at this
 have sayF:∀i o,i<bs.length→ops[i]?=some o→bs[i]?=some (some false)→i≠a→bP P hint n ops (w i) (a8 n ops s rs i) o (rs i) (w i)∧w (i+1)=w i:=by
  intro i o hi ho h2 h1
  have:=g3 i o _ hi ho h2
  unfold te at this
  rwa[if_neg h1]at this
 have sayN:∀i o,i<bs.length→ops[i]?=some o→bs[i]?=some none→i≠a→bP P hint n ops B (a8 n ops s rs i) o (rs i) B∧w (i+1)=w i:=by
  intro i o hi ho h2 h1
  have:=g3 i o _ hi ho h2
  unfold te at this
  rwa[if_neg h1]at this
 obtain⟨oa,hoa⟩:=hget a ha
 have sayA:eT P hint p bx oa (w a)∧rs a= .ptr p 1 0 0∧w (a+1)=(w a).set p bx:=by
  have:=g3 a oa _ ha hoa (hbs a ha)
  unfold te at this
  rwa[if_pos rfl]at this
 have stay:∀i,i<bs.length→i≠a→T i=false→w (i+1)=w i:=by
  intro i hi hia hT
  obtain⟨o,ho⟩:=hget i hi
  rcases TF i hi hia hT with h|h
  ·exact(sayF i o hi ho h hia).2
  ·exact(sayN i o hi ho h hia).2
 have hext:∀j,j≤bs.length→Ext B (w j)∧Ext B ((w j).set p bx):=by
  have key:∀H:aa,Ext B H→Ext B (H.set p bx):=fun H hE i o ho hl=>by
   by_cases e:i=p
   ·subst e;rw[hBp o ho]at hl;cases hl
   ·rw[List.getElem?_set_ne (Ne.symm e)];exact hE i o ho hl
  intro j
  induction j with
  |zero=>intro _;rw[g20];exact⟨hB,key _ hB⟩
  |succ j ih=>
   intro hj
   obtain⟨o,ho⟩:=hget j (by omega)
   by_cases hja:j=a
   ·subst hja
    rw[sayA.2.2]
    exact⟨(ih (by omega)).2,key _ (ih (by omega)).2⟩
   ·cases hT:T j with
    |true=>have:=(sayT j o (by omega) ho hT).2.1;exact⟨this,key _ this⟩
    |false=>rw[stay j (by omega) hja hT];exact ih (by omega)
 let u:Nat→aa:=fun i=>if i≤a then(w i).set p bx else w i
 have u1:∀i,i≤a→u i=(w i).set p bx:=fun i hi=>if_pos hi
 have u2:∀i,a<i→u i=w i:=fun i hi=>if_neg (by omega)
 have ustay:∀i,i<bs.length→T i=false→u (i+1)=u i:=by
  intro i hi hT
  rcases Nat.lt_trichotomy i a with h|h|h
  ·rw[u1 i (by omega),u1 (i+1) (by omega),stay i hi (by omega) hT]
  ·subst h;rw[u1 i (Nat.le_refl _),u2 (i+1) (by omega),sayA.2.2]
  ·rw[u2 i h,u2 (i+1) (by omega),stay i hi (by omega) hT]
 have chain:∀(f:Nat→aa) (N:Nat),(∀i,i<N→T i=false→f (i+1)=f i)→∀q i,q≤N→i≤N→(∀c,c<N→T c=true→(c<q↔c<i))→f q=f i:=by
  intro f N hf
  have up:∀d q,q+d≤N→(∀c,c<N→T c=true→(c<q↔c<q+d))→f (q+d)=f q:=by
   intro d
   induction d with
   |zero=>intros;rfl
   |succ d ihd=>
    intro q hq hcc
    have h1:T (q+d)=false:=by
     cases h:T (q+d)with
     |false=>rfl
     |true=>have:=(hcc (q+d) (by omega) h).2 (by omega);omega
    rw[←Nat.add_assoc,hf (q+d) (by omega) h1]
    exact ihd q (by omega) fun c hcm hct=>⟨fun h=>by omega,fun h=>(hcc c hcm hct).2 (by omega)⟩
  intro q i hq hi hcc
  rcases Nat.le_total q i with h|h
  ·obtain⟨d,rfl⟩:=Nat.exists_eq_add_of_le h
   exact(up d q hi hcc).symm
  ·obtain⟨d,rfl⟩:=Nat.exists_eq_add_of_le h
   exact up d i hq fun c hcm hct=>(hcc c hcm hct).symm
 have hsu:=chain u bs.length ustay
 have hsw:=chain w a fun i hi hT=>stay i (by omega) (by omega) hT
 have hole:∀j,j≤a→(w j)[p]?=(w 0)[p]?:=by
  intro j
  induction j with
  |zero=>intro _;rfl
  |succ j ih=>
   intro hj
   obtain⟨o,ho⟩:=hget j (by omega)
   cases hT:T j with
   |true=>rw[((sayT j o (by omega) ho hT).2.2 (by omega)).2];exact ih (by omega)
   |false=>rw[stay j (by omega) (by omega) hT];exact ih (by omega)
 have chk:∀i o,i<bs.length→ops[i]?=some o→T i=true→(i<a∨ca ops 12 i a=true)∧∀c,c<i→T c=true→ca ops 12 i c=true:=by
  intro i o hi ho hT
  obtain⟨h1,h2⟩:=TT i hT
  have:=hx i (List.mem_range.2 hi)
  rw[h2,ho]at this
  simp only[Bool.or_eq_true,beq_iff_eq,h1,false_or,Bool.and_eq_true,decide_eq_true_eq,List.all_eq_true]at this
  refine⟨this.1,fun c hci hct=>?_⟩
  obtain⟨h3,h4⟩:=TT c hct
  have:=this.2 c (List.mem_range.2 hci)
  rw[h4]at this
  simpa[h3]using this
 refine ng (cH hc) bs.length hms htl s rs (fun L G=>∃q,q≤bs.length∧(∀c,c<bs.length→T c=true→(L c=true↔c<q))∧((L a=true∧G=u q)∨(L a=false∧q≤a∧G=w q))) ?_ ?_ ?_ ops.size (Array.replicate ops.size false) s H (by simp) ?_ ?_ ?_ ?_ ?_ ⟨0,Nat.zero_le _,fun c hcm hct=>?_,.inr ⟨?_,Nat.zero_le _,g20.symm⟩⟩
 ·rintro L L' G hL ⟨q,h1,h2,h3⟩
  exact⟨q,h1,fun c hcm hct=>by rw[←hL c hcm];exact h2 c hcm hct,by rw[←hL a ha];exact h3⟩
 ·rintro L G i o ⟨q,hqm,hql,hG⟩ him hgo hun hcl hbi
  have hnew:∀c,c≠i→(if c=i then true else L c)=L c:=fun c hc=>if_neg hc
  by_cases hia:i=a
  ·subst hia
   rcases hG with⟨hL,_⟩|⟨_,hqa,rfl⟩
   ·rw[hL]at hun;cases hun
   have e:o=oa:=Option.some.inj (hgo.symm.trans hoa)
   subst e
   obtain⟨e,z,k,b,e',k1,k2,k3,k4,k5,k6,k7⟩:=sayA.1
   have hA:eT P hint p bx o (w q):=⟨e,z,k,b,e',k1,k2,k3,k4,k5,k6,by rw[hole q hqa,←hole i (Nat.le_refl _)];exact k7⟩
   refine⟨_,by rw[sayA.2.1];exact hA.step,q,hqm,fun c hcm hct=>?_,.inl ⟨by simp,(u1 q hqa).symm⟩⟩
   show(if c=i then true else L c)=true↔c<q
   rw[hnew c (TT c hct).1]
   exact hql c hcm hct
  ·have hLa:(if a=i then true else L a)=L a:=if_neg (Ne.symm hia)
   cases hT:T i with
   |false=>
    have hS:bP P hint n ops G (a8 n ops s rs i) o (rs i) G:=by
     have hfl:=hx i (List.mem_range.2 him)
     have hEx:Ext B G:=by
      rcases hG with⟨_,rfl⟩|⟨_,_,rfl⟩
      ·rcases Nat.lt_or_ge a q with h|h
       ·rw[u2 q h];exact(hext q hqm).1
       ·rw[u1 q h];exact(hext q hqm).2
      ·exact(hext q hqm).1
     rcases TF i him hia hT with hk|hk
     ·rw[hk,hgo]at hfl
      simp only[Bool.or_eq_true,beq_iff_eq,hia,false_or]at hfl
      exact dK hfl (fun hf=>by cases hf) (sayF i o him hgo hk hia).1
     ·rw[hk,hgo]at hfl
      simp only[Bool.or_eq_true,beq_iff_eq,hia,false_or]at hfl
      exact dK (first:=true) hfl (fun _=>hEx) (sayN i o him hgo hk hia).1
    refine⟨G,hS,q,hqm,fun c hcm hct=>?_,by simp only[hLa];exact hG⟩
    show(if c=i then true else L c)=true↔c<q
    rw[hnew c (by intro e;rw[e,hT]at hct;cases hct)]
    exact hql c hcm hct
   |true=>
    obtain⟨hra,hrc⟩:=chk i o him hgo hT
    have breach:∀c o',ops[c]?=some o'→(∀j,aO o' j=true→L j=true)→∀i',ca ops 12 c i'=true→L i'=true:=fun c o' hoc hb i' hr=>et hcl 12 c o' hoc hb i' hr
    have hbef:∀c,c<bs.length→T c=true→(L c=true↔c<i):=by
     intro c hcm hct
     refine⟨fun hl=>?_,fun hlt=>breach i o hgo hbi c (hrc c hlt hct)⟩
     rcases Nat.lt_trichotomy c i with h|h|h
     ·exact h
     ·subst h;rw[hun]at hl;cases hl
     ·exfalso
      obtain⟨oc,hgc⟩:=hget c hcm
      have:=breach c oc hgc (fun j hj=>hcl c oc j hgc hl hj) i ((chk c oc hcm hgc hct).2 i h hT)
      rw[hun]at this
      cases this
    have heq:∀c,c<bs.length→T c=true→(c<q↔c<i):=fun c hcm hct=>(hql c hcm hct).symm.trans (hbef c hcm hct)
    have hq':∀c,c<bs.length→T c=true→((if c=i then true else L c)=true↔c<i+1):=fun c hcm hct=>by
     by_cases e:c=i
     ·subst e;simp
     ·rw[if_neg e]
      exact(hbef c hcm hct).trans ⟨fun h=>by omega,fun h=>by omega⟩
    obtain⟨s1,_,s3⟩:=sayT i o him hgo hT
    rcases hG with⟨hL,rfl⟩|⟨hL,hqa,rfl⟩
    ·have hu:=hsu q i hqm (by omega) heq
     rw[hu]
     rcases Nat.lt_or_ge i a with h|h
     ·refine⟨u (i+1),by rw[u1 i (by omega),u1 (i+1) (by omega)];exact(s3 h).1,i+1,by omega,hq',.inl ⟨by show(if a=i then true else L a)=true;rw[hLa];exact hL,rfl⟩⟩
     ·refine⟨u (i+1),by rw[u2 i (by omega),u2 (i+1) (by omega)];exact s1,i+1,by omega,hq',.inl ⟨by show(if a=i then true else L a)=true;rw[hLa];exact hL,rfl⟩⟩
    ·have hilt:i<a:=by
      rcases hra with h|h
      ·exact h
      ·have:=breach i o hgo hbi a h
       rw[hL]at this;cases this
     have hw:=hsw q i hqa (by omega) fun c hcm hct=>heq c (by omega) hct
     rw[hw]
     exact⟨_,s1,i+1,by omega,hq',.inr ⟨by show(if a=i then true else L a)=false;rw[hLa];exact hL,by omega,rfl⟩⟩
 ·rintro L G hall ⟨q,hqm,hql,hG⟩
  rcases hG with⟨_,rfl⟩|⟨hL,_⟩
  ·rw[hsu q bs.length hqm (Nat.le_refl _) fun c hcm hct=>⟨fun _=>hcm,fun _=>(hql c hcm hct).1 (hall c hcm)⟩,u2 _ ha]
   exact g4
  ·rw[hall a ha]at hL;cases hL
 ·exact Nat.le_trans List.countP_le_length (by simp)
 ·intro t j hj
  have hjl:=dM hj
  rw[if_neg (by simp[Array.getD,hjl])]
 ·intro t _;rfl
 ·intro j oj i hoj hl
  have hjl:=(Array.getElem?_eq_some_iff.1 hoj).1
  simp[Array.getD,hjl]at hl
 ·intro i hi hi2
  simp[Array.getD,hi2]
 ·have:c<ops.size:=by omega
  simp[Array.getD,this]
 ·simp[Array.getD,show a<ops.size by omega]
end
section
variable (P:Program) (hint:Nat→Bool) (n:Nat) (ops:Array Oper) (a p:Nat) (bx:aA) (B:aa) (Q:aQ) (i:Nat) (bs:List (Option Bool)) (rest:List Oper) (s:Nat→AV) (H:aa)
def rL(d:Option Tmp)(H0:aa):AV→aa→Prop:=fun r H'=>H'=B∧aZ P hint n ops a p bx B Q (i+1) bs rest (bl n s d r) H0
def rh(d:Option Tmp)(H0:aa):AV→aa→Prop:=fun r H'=>H'=H0∧aZ P hint n ops a p bx B Q (i+1) bs rest (bl n s d r) H'
def lH(d:Option Tmp)(H0:aa)(r:AV)(H':aa):AV→aa→Prop:=fun r' H''=>r'=r∧H''=H'.set p bx∧H'[p]?=H0[p]?∧Ext B H'∧aZ P hint n ops a p bx B Q (i+1) bs rest (bl n s d r) H'
def ln(o:Oper)(H0:aa):AV→aa→Prop:=fun r H'=>if i<a then aB P hint s (H0.set p bx) o (lH P hint n ops a p bx B Q i bs rest s o.dst H0 r H') zB else Ext B H'∧aZ P hint n ops a p bx B Q (i+1) bs rest (bl n s o.dst r) H'
theorem zt(d:Option Tmp)(H0:aa)(r:AV):rL P hint n ops a p bx B Q i bs rest s d H0 r H=(H=B∧aZ P hint n ops a p bx B Q (i+1) bs rest (bl n s d r) H0):=rfl
theorem y8(d:Option Tmp)(H0:aa)(r:AV):rh P hint n ops a p bx B Q i bs rest s d H0 r H=(H=H0∧aZ P hint n ops a p bx B Q (i+1) bs rest (bl n s d r) H):=rfl
theorem za(d:Option Tmp)(H0:aa)(r:AV)(H':aa)(r':AV):lH P hint n ops a p bx B Q i bs rest s d H0 r H' r' H=(r'=r∧H=H'.set p bx∧H'[p]?=H0[p]?∧Ext B H'∧aZ P hint n ops a p bx B Q (i+1) bs rest (bl n s d r) H'):=rfl
theorem zz(d:Option Tmp)(op:Op)(ty:TypeId)(ps:String)(af:Array Edge)(g:Option (Nat×Bool))(H0:aa)(r:AV):ln P hint n ops a p bx B Q i bs rest s ⟨d,op,ty,ps,af,g⟩ H0 r H=(if i<a then aB P hint s (H0.set p bx) ⟨d,op,ty,ps,af,g⟩ (lH P hint n ops a p bx B Q i bs rest s d H0 r H) zB else Ext B H∧aZ P hint n ops a p bx B Q (i+1) bs rest (bl n s d r) H):=rfl
theorem sD(l:List Oper):aZ P hint n ops a p bx B Q i [] l s H=aM P hint n ops Q l s H:=by cases l<;>rfl
theorem uR(l:List Oper):aZ P hint n ops a p bx B Q i bs l.toArray.toList s H=aZ P hint n ops a p bx B Q i bs l s H:=rfl
theorem ye(d:Option Tmp)(op:Op)(ty:TypeId)(ps:String)(af:Array Edge):aZ P hint n ops a p bx B Q i (some false::bs) (⟨d,op,ty,ps,af,none⟩::rest) s H=if i=a then eT P hint p bx ⟨d,op,ty,ps,af,none⟩ H∧aZ P hint n ops a p bx B Q (i+1) bs rest (bl n s d (.ptr p 1 0 0)) (H.set p bx)else aB P hint s H ⟨d,op,ty,ps,af,none⟩ (rh P hint n ops a p bx B Q i bs rest s d H) zB:=by
 simp only[aZ,cy]<;>rfl
theorem yS(d:Option Tmp)(op:Op)(ty:TypeId)(ps:String)(af:Array Edge):aZ P hint n ops a p bx B Q i (none::bs) (⟨d,op,ty,ps,af,none⟩::rest) s H=if i=a then eT P hint p bx ⟨d,op,ty,ps,af,none⟩ H∧aZ P hint n ops a p bx B Q (i+1) bs rest (bl n s d (.ptr p 1 0 0)) (H.set p bx)else aB P hint s B ⟨d,op,ty,ps,af,none⟩ (rL P hint n ops a p bx B Q i bs rest s d H) zB:=by
 simp only[aZ,cy]<;>rfl
theorem yP(d:Option Tmp)(op:Op)(ty:TypeId)(ps:String)(af:Array Edge):aZ P hint n ops a p bx B Q i (some true::bs) (⟨d,op,ty,ps,af,none⟩::rest) s H=if i=a then eT P hint p bx ⟨d,op,ty,ps,af,none⟩ H∧aZ P hint n ops a p bx B Q (i+1) bs rest (bl n s d (.ptr p 1 0 0)) (H.set p bx)else aB P hint s H ⟨d,op,ty,ps,af,none⟩ (ln P hint n ops a p bx B Q i bs rest s ⟨d,op,ty,ps,af,none⟩ H) zB:=by
 simp only[aZ,true_and]
 by_cases h:i<a
 ·have e:ln P hint n ops a p bx B Q i bs rest s ⟨d,op,ty,ps,af,none⟩ H=fun r H'=>aB P hint s (H.set p bx) ⟨d,op,ty,ps,af,none⟩ (lH P hint n ops a p bx B Q i bs rest s d H r H') zB:=by
   funext r H';exact if_pos h
  rw[e,if_pos h];rfl
 ·have e:ln P hint n ops a p bx B Q i bs rest s ⟨d,op,ty,ps,af,none⟩ H=fun r H'=>Ext B H'∧aZ P hint n ops a p bx B Q (i+1) bs rest (bl n s d r) H':=by
   funext r H';exact if_neg h
  rw[e,if_neg h];rfl
end
section
variable {P:Program} {hint:Nat→Bool} {n:Nat} {ops:Array Oper} {a p:Nat} {bx:aA} {B:aa} {Q:aQ} {i:Nat} {bs:List (Option Bool)} {rest:List Oper} {s:Nat→AV}
@[congr] theorem GJ {l:List Oper} {H H':aa} (h:nf H=H'):aZ P hint n ops a p bx B Q i bs l s H=aZ P hint n ops a p bx B Q i bs l s H':=by rw[←h];rfl
@[congr] theorem Ew {d:Option Tmp} {H0 H H':aa} {r r':AV} (g:nf r=r') (h:nf H=H'):rL P hint n ops a p bx B Q i bs rest s d H0 r H=rL P hint n ops a p bx B Q i bs rest s d H0 r' H':=by rw[←g,←h];rfl
@[congr] theorem Ey {d:Option Tmp} {H0 H H':aa} {r r':AV} (g:nf r=r') (h:nf H=H'):rh P hint n ops a p bx B Q i bs rest s d H0 r H=rh P hint n ops a p bx B Q i bs rest s d H0 r' H':=by rw[←g,←h];rfl
@[congr] theorem Ex {d:Option Tmp} {H0 H1 H H':aa} {r0 r r':AV} (g:nf r=r') (h:nf H=H'):lH P hint n ops a p bx B Q i bs rest s d H0 r0 H1 r H=lH P hint n ops a p bx B Q i bs rest s d H0 r0 H1 r' H':=by rw[←g,←h];rfl
@[congr] theorem Ez {o:Oper} {H0 H H':aa} {r r':AV} (g:nf r=r') (h:nf H=H'):ln P hint n ops a p bx B Q i bs rest s o H0 r H=ln P hint n ops a p bx B Q i bs rest s o H0 r' H':=by rw[←g,←h];rfl
end
attribute [go_sem] zt y8 za zz sD uR ye yS yP
inductive Eu (H:aa):AV→AV→Prop
 |d (x:D):Eu H (.d x) (.d x)
 |sl (id k ag off len:Nat) (e:TypeId) (es:List (List D)) (ho:H[id]?=some (.arr e k ag es)):Eu H (.sl id ag off len) (.d (.list false ((es.drop off).take len)))
inductive qB (H:aa):List AV→List AV→Prop
 |nil:qB H [] []
 |cons {x y:AV} {xs ys:List AV} (h:Eu H x y) (t:qB H xs ys):qB H (x::xs) (y::ys)
theorem qB.len{H:aa}{xs ys:List AV}(h:qB H xs ys):xs.length=ys.length:=by
 induction h with
 |nil=>rfl
 |cons _ _ ih=>simp[ih]
theorem qB.get{H:aa}{xs ys:List AV}(h:qB H xs ys):∀i (h1:i<xs.length) (h2:i<ys.length),Eu H xs[i] ys[i]:=by
 induction h with
 |nil=>intro i h1;simp at h1
 |cons h t ih=>
  intro i h1 h2
  cases i with
  |zero=>exact h
  |succ i=>exact ih i (by simpa using h1) (by simpa using h2)
def rR(w:World):Addr→Prop:=fun a=>∃v,w.cell? a=some v
theorem Eu.ra{H:aa}{φ:aI}{N:Addr→Prop}{w:World}(hR:Rel H φ N w){x y:AV}{v:Value}(h:Eu H x y)(hx:RA H φ N w x v):RA [] (fun _=>none) (rR w) w y v:=by
 cases h with
 |d x=>
  cases hx with
  |d hd=>exact .d (hd.mono (fun a ha=>hR.live a ha) fun _ _ _ h=>h)
 |sl id k ag off len e es ho=>
  cases hx with
  |sl _ _ _ _ A l m' o ho' hv' hp=>
  rw[ho]at ho';cases ho'
  obtain⟨rfl,h1,h2⟩:=hp rfl
  simp only[aA.len]at h1
  by_cases hl0:l=0
  ·subst hl0
   simp only[List.take_zero]
   exact .d (.nil _ _ (by rcases h2 with⟨_,_,_,rfl⟩|⟨B,c,_,_,rfl,_⟩;exact fun _=>rfl;exact fun h=>by cases h))
  have hobj:=hR.obj id _ ho
  cases hobj with
  |arr _ _ _ _ hk hes hbl=>
  rcases h2 with⟨_,h3,_⟩|⟨B,c,h3,h4,rfl,rfl⟩
  ·omega
  rcases hbl with⟨g0,_⟩|⟨B',cap,cur,g1,g2,g3,g4,g5,g6⟩
  ·rw[g0]at h3;cases h3
  obtain⟨e1,e2⟩:=Prod.mk.inj (Option.some.inj (g1.symm.trans h3))
  subst e1 e2
  have hel:((es.drop off).take l).length=l:=by simp;omega
  have key:=RD.list (N:=rR w) (w:=w) false ((es.drop off).take l) ⟨B',off* k,none⟩ (cap-off) k (fun i j=>cur.getD ((off+i)* k+j) undef) (by rw[hel];omega)
   (fun e he=>hes e (List.mem_of_mem_drop (List.mem_of_mem_take he))) (fun i j hi hj=>by
    rw[hel]at hi
    have hlt:(off+i)* k+j<es.length* k:=cE hj (by omega)
    have hlt2:(off+i)* k+j<cur.size:=by have:=Nat.mul_le_mul_right k g3;omega
    have hpos:off* k+(i* k+j)=(off+i)* k+j:=by rw[Nat.add_mul];omega
    rw[add_plain,hpos]
    have hc:w.cell? ⟨B',(off+i)* k+j,none⟩=some (cur.getD ((off+i)* k+j) undef):=by simp[World.cell?,g2,Array.getD,hlt2]
    exact⟨⟨_,hc⟩,hc⟩) (fun i hi j hj=>by
    rw[hel]at hi
    simp only[List.getElem_take,List.getElem_drop]at hj⊢
    obtain⟨u,hu,hd⟩:=g6 (off+i) (by omega) j hj
    have hget:cur.getD ((off+i)* k+j) undef=u:=by
     rw[Array.getD_eq_getD_getElem?,hu];rfl
    simp only[hget]
    exact hd.mono (fun a ha=>hR.live a ha) fun _ _ _ h=>h)
  rw[hel]at key
  exact .d key
def tf:AV→Bool
 | .d (.v _)=>true
 |_=>false
def tT:AV→Bool
 | .d (.v _)=>true
 | .bq cs=>cs.all tf
 | .agg cs=>cs.all tf
 |_=>false
theorem tt{H H':aa}{φ φ':aI}{N N':Addr→Prop}{w w':World}{x:AV}{v:Value}(hf:tf x=true)(h:RA H φ N w x v):RA H' φ' N' w' x v:=by
 cases h<;>try (simp[tf]at hf;done)
 rename_i hd
 cases hd<;>try (simp[tf]at hf;done)
 rename_i hx
 exact .d (.v _ hx)
theorem zO{H H':aa}{φ φ':aI}{N N':Addr→Prop}{w w':World}{x:AV}{v:Value}(hf:tT x=true)(h:RA H φ N w x v):RA H' φ' N' w' x v:=by
 cases h with
 |bq cs vs hl g=>exact .bq cs vs hl fun i h1 h2=>tt (List.all_eq_true.1 hf _ (List.getElem_mem h1)) (g i h1 h2)
 |agg cs vs hl g=>exact .agg cs vs hl fun i h1 h2=>tt (List.all_eq_true.1 hf _ (List.getElem_mem h1)) (g i h1 h2)
 |d hd=>
  cases hd<;>try (simp[tT]at hf;done)
  rename_i hx
  exact .d (.v _ hx)
 |_=>simp[tT]at hf
theorem ah.borrow{P:Program}{f:FuncId}{xs bs:List AV}{H:aa}{r:AV}(hb:qB H xs bs)(h:ah P f bs [] (.ok r) [])(hf:tT r=true):ah P f xs H (.ok r) H:=by
 intro φ N w vals hR hA
 have hR0:Rel [] (fun _=>none) (rR w) w:=⟨fun id o h=>by simp at h,fun i j B c c' h=>by simp at h,fun a h=>h,fun a id B c _ h=>by simp at h⟩
 have hA0:oG [] (fun _=>none) (rR w) w bs vals:=⟨by rw[←hb.len];exact hA.1,fun i h1 h2=>(hb.get i (by rw[hb.len];exact h1) h1).ra hR (hA.2 i (by rw[hb.len];exact h1) h2)⟩
 have h4:=h _ _ w vals hR0 hA0
 have go:∀e' w',(∃φ' N',Rel [] φ' N' w'∧ar [] (fun _=>none) (rR w) w [] φ' N' w'∧qx [] φ' N' w' (.ok r) e')→∃φ' N',Rel H φ' N' w'∧ar H φ N w H φ' N' w'∧qx H φ' N' w' (.ok r) e':=by
  rintro e' w' ⟨φ',N',hR',hS',hE⟩
  have hk:∀k,k<w.heap.size→w'.heap[k]?=w.heap[k]?:=fun k hk=>hS'.cw k hk fun id c h=>by simp at h
  have hlt:∀id B c,id<H.length→φ id=some (B,c)→B<w.heap.size:=by
   intro id B c hid hp
   have hob:=hR.obj id _ (List.getElem?_eq_getElem hid)
   have hs:∀{x},w.heap[B]?=some x→B<w.heap.size:=fun hx=>by
    rcases Nat.lt_or_ge B w.heap.size with h|h
    ·exact h
    ·simp[Array.getElem?_eq_none h]at hx
   generalize H[id]=o at hob
   cases hob with
   |arr e k ag es hk hes h=>
    rcases h with⟨h0,_⟩|⟨B',cap,cur,h1,h2,_⟩
    ·rw[hp]at h0;cases h0
    ·rw[hp]at h1;cases h1;exact hs h2
   |box e k ag n cs B' cap cur _ _ hp' hb'=>rw[hp]at hp';cases hp';exact hs hb'
   |mp kk es B' cap ents clock hp' hb'=>rw[hp]at hp';cases hp';exact hs hb'
   |dead ag hp'=>rw[hp]at hp';cases hp'
   |iter m since seen B' cap bm cm kk es hp' hb'=>rw[hp]at hp';cases hp';exact hs hb'
   |lp r s B' cap hp' hb'=>rw[hp]at hp';cases hp';exact hs hb'
  have hS:ar H φ N w H φ N w':=⟨Nat.le_refl _,hS'.os,hS'.tape,hS'.output,hS'.size,fun k h _=>hk k h,fun id B c hid hp _=>⟨id,c,hid,hp⟩,fun _ h=>h,
   fun _ o h=>⟨o,h,rfl,Nat.le_refl _,fun _=>⟨rfl,Nat.le_refl _⟩,fun kk es h=>⟨rfl,es,h⟩⟩,fun _ h=> .inl h⟩
  refine⟨φ,N,⟨fun id o ho=>?_,hR.inj,fun a ha=>?_,hR.apart⟩,hS,?_⟩
  ·exact(hR.obj id o ho).cw hR hS rfl fun B c hp=>hk B (hlt id B c (al ho) hp)
  ·obtain⟨v,hv⟩:=hR.live a ha
   exact⟨v,hS.cell hR a v ha hv⟩
  ·cases e' with
   |returned v=>exact zO hf hE
   |_=>exact hE.elim
 rcases h4 with⟨h5,h6⟩|⟨v,w',h5,h6⟩
 ·exact .inl ⟨h5,h6.mono go⟩
 ·exact .inr ⟨v,w',h5,go _ _ h6⟩
theorem ab.HT{P:Program}{f:FuncId}{xs bs:List AV}{H:aa}{K:AV→aa→Prop}{KP:Value→aa→Prop}{r:AV}(hb:qB H xs bs)(h:ah P f bs [] (.ok r) [])(hf:tT r=true)(hk:K r H):ab P f xs H K KP:=ab.ok (ah.borrow hb h hf) hk
end Go.Proofs.YtggohfhfocgilaaGreatAw
namespace Go.Proofs.YtggohfhfocgilaaGreat
open Go.Proofs.YtggohfhfocgilaaGreatAw Go.RowKit
theorem DQ(H xs ys:aa):Ext (H++xs) (H++(xs++ys)):=by rw[←List.append_assoc];exact Ext.app _ _
theorem AO{H T G:aa}{s:Nat→AV}(e:TypeId)(k:Nat)(hk:0<k)(h:G=H++T):an H s G (fun t=>qd G H.length (s t)) (H++[.arr e k 0 []]):=by
 subst h
 exact(an.drop H T s).trans (an.more _ _ e k hk)
theorem uE.GO{m:Nat}{In:aa→Prop}{Ix:AX→aa→Prop}{H ob0:aa}{s:Nat→AV}(dc T:aa){H3:aa}(e:H3=H++(dc++T))(hk:dc.length=ob0.length)(hm:m=(H++ob0).length)(hb:dc.all (aA.below m)=true)
  (hi:Ix .ret (H++dc)):uE m In Ix (H++ob0) .ret s H3:=by
 obtain⟨s3,H4,h1,h2,h3⟩:=uE.cut (In:=fun X=>X=H++dc) (Ix:=fun _ _=>False) (s:=s) dc T e hk hm hb rfl
 subst h3
 exact⟨s3,_,h1,h2,hi⟩
theorem vb(S:List (List Sg))(l:List Sg):bC S++[[.list false (l.map Sg.ds)]]=bC (S++[l]):=by simp[bC]
theorem pH{ks:List Int}:∀{R:List (List ak)},im ks R=0→∀r∈R,gj r ks=0
 |[],_,r,h=>by cases h
 |x::R,h,r,hr=>by
  unfold im at h
  by_cases h0:gj x ks=0
  ·rw[if_neg (by simpa using h0)]at h
   rcases List.mem_cons.1 hr with rfl|hr
   ·exact h0
   ·exact pH h r hr
  ·rw[if_pos h0]at h;exact absurd h h0
theorem vE{R:List (List ak)}{ks:List Int}(h:cX R ks=0)(r:List ak)(hr:r∈R):r.length=ks.length:=by
 unfold cX at h
 split at h
 ·cases h
 ·split at h
  ·cases h
  ·have:=pH h r hr
   unfold gj at this
   split at this
   ·cases this
   ·rename_i hh;simpa using hh
theorem rY{l:List Int}{n:Int}(h:dr l n=true)(x:Int)(hx:x∈l):0≤x∧x<n:=by
 unfold dr at h
 simp only[Bool.not_eq_true',List.any_eq_false,decide_eq_true_eq]at h
 have:=h x hx
 omega
theorem sd(R:List (List ak))(ks cs key:List Int)(w:Int)(n0 n1 n2 n3:Bool)(H:aa)(hR:R.length≤1000000000)(hr:∀r∈R,r.length≤1000000000)(hk:ks.length≤1000000000)(hcl:cs.length≤1000000000)(hkl:key.length≤1000000000)(hI:∀r∈R,∀v∈r,fV v.i)(he:cX R ks=0)(hb:¬su ks cs key):
  ah Tryz.prog 34 [.d (.list n0 (b9 R)),.d (.list n1 (ints ks)),.d (.list n2 (ints cs)),.d (.list n3 (ints key)),iA w] H
   (.ok (if jc (oy R key) ks cs w≠0 then .bq [.agg ea,iA (jc (oy R key) ks cs w)]else .bq [(Pj.mk cs key R.length (ev (oy R key) ks cs w)).av,iA 0])) H:=by
 have hc:=fun H=>jo R ks n0 n1 H (by omega) (fun r h=>by have:=hr r h;omega) (by omega)
 have hw1:=fun H=>fS cs n2 ks.length H (by omega)
 have hw2:=fun H=>fS key n3 ks.length H (by omega)
 have ho:=fun H=>CI.pQ n2 cs H hcl
 have hcl1:=fun H=>mc cs n2 H (by omega)
 have hcl2:=fun H=>mc key n3 H (by omega)
 have hby:=fun H=>CL R key n0 n3 H hR hr (by omega)
 have hcn:decide cs.Nodup=false↔¬cs.Nodup:=by simp
 have g1:¬cs.length=0:=fun h=>hb (.inl h)
 have g2:¬8<key.length:=fun h=>hb (.inr (.inl h))
 have g3:dr cs ks.length=true:=by cases h:dr cs ks.length;exact absurd (.inr (.inr (.inl h))) hb;rfl
 have g4:dr key ks.length=true:=by cases h:dr key ks.length;exact absurd (.inr (.inr (.inr (.inl h)))) hb;rfl
 have g5:decide cs.Nodup=true:=by cases h:decide cs.Nodup;exact absurd (.inr (.inr (.inr (.inr (hcn.1 h))))) hb;rfl
 rw[he]at hc
 rw[g3]at hw1
 rw[g4]at hw2
 rw[g5]at ho
 have hQl:(oy R key).length=R.length:=St.aX _
 have hQm:∀r,r∈oy R key↔r∈R:=fun r=>St.eZ (js key).ord
 have hQr:∀r∈oy R key,r.length=ks.length:=fun r h=>vE he r ((hQm r).1 h)
 have hQI:∀r∈oy R key,∀v∈r,fV v.i:=fun r h=>hI r ((hQm r).1 h)
 have hcr:∀c∈cs,0≤c∧c<ks.length:=fun c h=>rY g3 c h
 generalize oy R key=Q at*
 refine ah.cG (hint:=fun t=>t==2000000||t==1000024||t==1000026) Tryz.func34 (by kernel_rfl) rfl [.cell 10 36,.cell 11 68] (by kernel_rfl) (by simp[Tryz.ntmps34]) ?_
 rw[Tryz.ntmps34]
 simp -implicitDefEqProofs only[↓reduceIte,go_sem,ae,Nat.reduceAdd,Nat.reduceLT,Nat.reduceEqDiff,Nat.reduceBEq,reduceCtorEq]
 refine ab.ok (hc _) ?_
 simp -implicitDefEqProofs only[↓reduceIte,go_sem,ae,Nat.reduceAdd,Nat.reduceLT,Nat.reduceEqDiff,Nat.reduceBEq,reduceCtorEq,az,show ¬((cs.length:Int)=0) by omega,show ¬(8:Int)<key.length by omega]
 refine ab.ok (hw1 _) ?_
 simp -implicitDefEqProofs only[↓reduceIte,go_sem,ae,Nat.reduceLT,Nat.reduceEqDiff,reduceCtorEq,az]
 refine ab.ok (hw2 _) ?_
 simp -implicitDefEqProofs only[↓reduceIte,go_sem,Nat.reduceLT,Nat.reduceEqDiff,reduceCtorEq]
 refine ab.ok (ho _) ?_
 simp -implicitDefEqProofs only[↓reduceIte,go_sem,Nat.reduceAdd,Nat.reduceLT,Nat.reduceEqDiff,Nat.reduceBEq,reduceCtorEq]
 refine ab.ok (hcl1 _) ?_
 simp -implicitDefEqProofs only[↓reduceIte,go_sem,Nat.reduceLT,Nat.reduceEqDiff]
 refine ab.ok (hcl2 _) ?_
 simp -implicitDefEqProofs only[↓reduceIte,go_sem,aw,Nat.reduceAdd,Nat.reduceLT,Nat.reduceLeDiff,Nat.reduceEqDiff,Nat.reduceBEq,reduceCtorEq,b7]
 refine ab.ok (hby _) ?_
 simp -implicitDefEqProofs only[↓reduceIte,go_sem,Nat.reduceAdd,Nat.reduceLT,Nat.reduceEqDiff,Nat.reduceBEq,az]
 refine bf (fun k s H'=>H'=H++[.box 23 1 0 1 [.d (.list n1 (ints ks))],.box 3 1 0 1 [iA w],.box 36 4 0 1 ea,.box 68 1 0 1 [iA 0],.box 36 4 0 1 [.d (.list false (ints cs)),.d (.list false (ints key)),iA R.length,.sl (H.length+5) k 0 k],.arr 110 1 k (bC (ev Q ks (cs.take k) w))]∧(∀x∈(cs.take k).flatMap fun c=>(bj Q ks w c).map (·.2),x=0)∧s 6= .ptr H.length 0 0 0∧s 9= .ptr (H.length+1) 0 0 0∧s 10= .ptr (H.length+2) 0 0 0∧s 11= .ptr (H.length+3) 0 0 0∧s 13= .ptr (H.length+4) 0 0 0∧s 14= .d (.list false (b9 Q))∧s 69= .d (.list n2 (ints cs))∧s 70=iA cs.length∧s 71=iA k) cs.length (by omega) (an.eg _ _ (H.length+4) 36 4 0 1 [.d (.list false (ints cs)),.d (.list false (ints key)),iA R.length,.d (.v (.slice none 0 0))] 3 _ 110 1 (by decide) (by simp -implicitDefEqProofs only[go_sem]) rfl rfl) ?_ ?_ ?_
 ·refine⟨?_,?_,?_⟩
  ·simp -implicitDefEqProofs only[go_sem,Nat.reduceAdd,List.take_zero,ev,bC,ea]
  ·intro x hx;simp at hx
  ·simp -implicitDefEqProofs only[↓reduceIte,go_sem,Nat.reduceLT,Nat.reduceEqDiff]
 ·rintro k s H' hk' hw ⟨rfl,hp,t6,t9,t10,t11,t13,t14,t69,t70,t71⟩
  have hy:=b5 cs k hk'
  have hcm:=hcr cs[k] (List.getElem_mem hk')
  have e1:cs.take (k+1)=cs.take k++[cs[k]]:=List.take_succ_eq_append_getElem hk'
  have e2:cs=cs.take k++cs[k]::cs.drop (k+1):=by rw[←List.drop_eq_getElem_cons hk',List.take_append_drop]
  generalize hcc:cs[k]=c at*
  simp -implicitDefEqProofs only[↓reduceIte,go_sem,aw,Nat.reduceAdd,Nat.reduceLT,Nat.reduceEqDiff,Nat.reduceBEq,t14,t69,t70,t71,hk',hy]
  refine ab.ok (vh false Q _) ?_
  simp -implicitDefEqProofs only[go_sem,Nat.reduceAdd]
  have hWl:(bC (ev Q ks (cs.take k) w)).length=k:=by simp[bC,ev];omega
  have hW:bC (ev Q ks (cs.take (k+1)) w)=bC (ev Q ks (cs.take k) w)++[[.list false (((bj Q ks w c).map (·.1)).map Sg.ds)]]:=by rw[e1,vb];simp[ev]
  generalize bC (ev Q ks (cs.take k) w)=W at*
  generalize hW2:bC (ev Q ks (cs.take (k+1)) w)=W2 at*
  refine jz (fun t=>t==22||t==1000020) (fun j Hk=>Hk=H++[.box 23 1 0 1 [.d (.list n1 (ints ks))],.box 3 1 0 1 [iA w],.box 36 4 0 1 ea,.box 68 1 0 1 [iA 0],.box 36 4 0 1 [.d (.list false (ints cs)),.d (.list false (ints key)),iA R.length,.sl (H.length+5) k 0 k],.arr 110 1 k W,.box 3 1 0 1 [iA c],.box 110 1 0 1 [.sl (H.length+10) j 0 j],cB false Q,nB 256,.arr 113 12 j ((((bj Q ks w c).take j).map (·.1)).map Sg.ds)]∧∀x∈(bj Q ks w c).take j,x.2=0)
   (fun e Hx=>∃j L,e= .ret∧Hx=H++[.box 23 1 0 1 [.d (.list n1 (ints ks))],.box 3 1 0 1 [iA w],.box 36 4 0 1 ea,.box 68 1 0 1 [iA (jc Q ks cs w)],.box 36 4 0 1 [.d (.list false (ints cs)),.d (.list false (ints key)),iA R.length,.sl (H.length+5) k 0 k],.arr 110 1 k W,.box 3 1 0 1 [iA c],.box 110 1 0 1 [.sl (H.length+10) j 0 j],cB false Q,nB 256,.arr 113 12 j L]∧jc Q ks cs w≠0)
   (by kernel_rfl) (by kernel_rfl) (an.eg _ _ (H.length+7) 110 1 0 1 [.d (.v (.slice none 0 0))] 0 _ 113 12 (by decide) (by simp -implicitDefEqProofs only[go_sem]) rfl rfl) (by simp -implicitDefEqProofs only[↓reduceIte,go_sem,Nat.reduceLT]) (AK false Q (H.length+8) (H.length+9) (by omega)) ?_ ?_ ?_ ?_ ?_ ?_
  ·intro v hv
   obtain⟨u,_,rfl⟩:=List.mem_map.1 hv
   exact⟨rfl,fun w hw=>by rw[List.mem_singleton.1 hw];rfl⟩
  ·refine⟨?_,fun x hx=>by simp at hx⟩
   simp -implicitDefEqProofs only[go_sem,Nat.reduceAdd,List.take_zero]
  ·rintro j _ ⟨rfl,_⟩
   exact⟨by simp -implicitDefEqProofs only[go_sem],by simp -implicitDefEqProofs only[go_sem,Nat.reduceAdd]⟩
  ·rintro j hj _ ⟨rfl,hq⟩
   rw[xn]
   rw[kI]at hj
   have hjl:=zZ.1 hj
   have hpc:(bj Q ks w c)[j]?=some (jK (iC c (xh Q j)) (ks.getD c.toNat 0) w):=by simp[bj,oQ,hj]
   have hpl:(xh Q j).length≤256:=by unfold xh;rw[List.length_take];omega
   have hpm:∀r∈xh Q j,r∈Q:=fun r h=>List.mem_of_mem_drop (List.mem_of_mem_take h)
   obtain⟨cn,rfl⟩:=Int.eq_ofNat_of_zero_le hcm.1
   have hcn2:cn<ks.length:=by omega
   have hkd:ks.getD (cn:Int).toNat 0=ks[cn]:=by simp[List.getD,hcn2]
   have hkx:=b5 ks cn hcn2
   rw[hkd]at hpc
   generalize ks[cn]=kd at*
   have hpr:∀r∈xh Q j,r.length=ks.length:=fun r h=>hQr r (hpm r h)
   have hpI:∀v∈iC cn (xh Q j),fV v.i:=fun v hv=>by
    obtain⟨r,h1,rfl⟩:=List.mem_map.1 hv
    have hl:=hpr r h1
    have:gn r (cn:Int)=r[cn]'(by omega):=by simp[gn,List.getD,show cn<r.length by omega];intro h;omega
    rw[this]
    exact hQI r (hpm r h1) _ (List.getElem_mem _)
   generalize hpp:xh Q j=p at*
   have hmk:=fun G:aa=>xA (iC cn p) kd w hpI (by simp[iC];omega) G
   have hLl:(((List.take j (bj Q ks w cn)).map (·.1)).map Sg.ds).length=j:=by
    rw[List.length_map,List.length_map,List.length_take]
    have:=(List.getElem?_eq_some_iff.1 hpc).1
    omega
   generalize hL:((List.take j (bj Q ks w cn)).map (·.1)).map Sg.ds=L at*
   simp -implicitDefEqProofs only[↓reduceIte,go_sem,Nat.reduceAdd,Nat.reduceLT,Nat.reduceEqDiff,Nat.reduceBEq,b7]
   refine bf (fun i s G=>G=(H++[.box 23 1 0 1 [.d (.list n1 (ints ks))],.box 3 1 0 1 [iA w],.box 36 4 0 1 ea,.box 68 1 0 1 [iA 0],.box 36 4 0 1 [.d (.list false (ints cs)),.d (.list false (ints key)),iA R.length,.sl (H.length+5) k 0 k],.arr 110 1 k W,.box 3 1 0 1 [iA cn],.box 110 1 0 1 [.sl (H.length+10) j 0 j],cB false Q,nB 256,.arr 113 12 j L])++[.arr 100 3 i ((iC cn (p.take i)).map ak.enc)]∧s 6= .ptr H.length 0 0 0∧s 9= .ptr (H.length+1) 0 0 0∧s 10= .ptr (H.length+2) 0 0 0∧s 11= .ptr (H.length+3) 0 0 0∧s 16= .ptr (H.length+6) 0 0 0∧s 17= .ptr (H.length+7) 0 0 0∧s 19= .sl (H.length+11) i 0 i∧s 78= .d (.list false (b9 p))∧s 79=iA p.length∧s 80=iA i) p.length (by omega) (an.fy _ _ 19 100 3 (by decide) (by simp -implicitDefEqProofs only[↓reduceIte,go_sem,Nat.reduceLT,Nat.reduceEqDiff]) _) ?_ ?_ ?_
   ·refine⟨?_,?_⟩
    ·simp -implicitDefEqProofs only[go_sem,List.take_zero,iC]
    ·simp -implicitDefEqProofs only[↓reduceIte,go_sem,Nat.reduceAdd,Nat.reduceLT,Nat.reduceEqDiff,t6,t9,t10,t11]
   ·rintro i s G hi hw3 ⟨rfl,t6,t9,t10,t11,t16,t17,t19,t78,t79,t80⟩
    have hx:=jy p i hi
    have hrl:=hpr p[i] (List.getElem_mem hi)
    have e3:(iC cn (p.take (i+1))).map ak.enc=(iC cn (p.take i)).map ak.enc++[(gn p[i] cn).enc]:=by rw[List.take_succ_eq_append_getElem hi];unfold iC;rw[List.map_append,List.map_append];rfl
    have hvl:((iC cn (p.take i)).map ak.enc).length=i:=by simp[iC];omega
    have hat:gn p[i] (cn:Int)=p[i][cn]'(by omega):=by simp[gn,List.getD,show cn<p[i].length by omega];intro h;omega
    have hvx:(p[i].map ak.enc)[cn]?=some (gn p[i] cn).enc:=by rw[hat,List.getElem?_map,List.getElem?_eq_getElem (by omega)];rfl
    have hrl2:cn<p[i].length:=by omega
    rw[e3]
    clear hat
    generalize (iC cn (p.take i)).map ak.enc=VV at*
    generalize gn p[i] (cn:Int)=v at*
    generalize p[i]=r at*
    simp -implicitDefEqProofs only[↓reduceIte,go_sem,ae,Nat.reduceAdd,Nat.reduceLT,Nat.reduceLeDiff,Nat.reduceEqDiff,Nat.reduceBEq,t16,t19,t78,t79,t80,hi,hx,hvx,hvl,ak.enc]
    refine⟨by omega,by omega,cO.same ⟨rfl,?_⟩⟩
    simp -implicitDefEqProofs only[↓reduceIte,go_sem,Nat.reduceLT,Nat.reduceEqDiff,t6,t9,t10,t11,t16,t17,t78,t79,show IntKind.i64.wrap ((i:Int)+1)=(i:Int)+1 from wrap64_in _ (by omega) (by omega)]
   ·rintro s G ⟨rfl,t6,t9,t10,t11,t16,t17,t19,t78,t79,t80⟩
    simp -implicitDefEqProofs only[↓reduceIte,go_sem,Nat.reduceAdd,Nat.reduceLT,Nat.reduceBEq,t79,t80]
    rw[List.take_of_length_le (Nat.le_refl _)]
    have hcl3:(iC cn p).length=p.length:=by simp[iC]
    generalize iC (cn:Int) p=V at*
    refine⟨_,_,AO (T:=[_]) 113 12 (by decide) (by rw[List.append_assoc];rfl),?_⟩
    simp -implicitDefEqProofs only[go_sem]
    generalize jK V kd w=mp at*
    obtain⟨sg,e⟩:=mp
    simp only at hmk
    have hti:TI Tryz.prog 113=some ((.agg #[.int .i64 0,.int .i64 0,.int .i64 0,.int .i64 0,.int .i64 0,.int .i64 0,.string ⟨#[]⟩,.int .i64 0,.int .i64 0,.string ⟨#[]⟩,.slice none 0 0,.slice none 0 0]:Value),12,144):=by kernel_rfl
    refine yY [some false,none,none,none,none,none,some true,some false,some false,some false,some true,some true,some false] 10 (H.length+11) (.box 113 12 1 1 pa) (H++[.box 23 1 0 1 [.d (.list n1 (ints ks))],.box 3 1 0 1 [iA w],.box 36 4 0 1 ea,.box 68 1 0 1 [iA 0],.box 36 4 0 1 [.d (.list false (ints cs)),.d (.list false (ints key)),iA R.length,.sl (H.length+5) k 0 k],.arr 110 1 k W,.box 3 1 0 1 [iA cn],.box 110 1 0 1 [.sl (H.length+10) j 0 j],cB false Q,nB 256,.arr 113 12 j L]) K.mixed (by kernel_rfl) (by kernel_rfl) (by kernel_rfl) (DQ _ [_,_,_,_,_,_,_,_,_,_,_] [_]) (by intro o ho;simp at ho) ?_
    simp -implicitDefEqProofs only[↓reduceIte,go_sem,ae,Nat.reduceAdd,Nat.reduceLT,Nat.reduceEqDiff,reduceCtorEq,t6,t9,t16,t19,hkx,lL,List.length_map,hcl3]
    refine ab.ok (hmk _) ?_
    simp -implicitDefEqProofs only[↓reduceIte,go_sem,Nat.reduceAdd,Nat.reduceLT,Nat.reduceEqDiff]
    refine ab.ok (hmk _) ?_
    obtain⟨sk,sw,⟨zr,zn,mn,mx⟩,ns,bd⟩:=sg
    simp -implicitDefEqProofs only[↓reduceIte,go_sem,aw,Nat.reduceAdd,Nat.reduceLT,Nat.reduceEqDiff,Sg.cs]
    refine⟨DQ _ [_,_,_,_,_,_,_,_,_,_,_] [_],⟨_,_,_,_,113,rfl,rfl,hti,⟨by decide,by kernel_rfl,by kernel_rfl⟩,rfl,rfl,by simp -implicitDefEqProofs only[go_sem]⟩,?_⟩
    simp -implicitDefEqProofs only[↓reduceIte,go_sem,Nat.reduceAdd,Nat.reduceLT,Nat.reduceEqDiff,Nat.reduceBEq,pa,iv]
    refine⟨DQ _ [_,_,_,_,_,_,_,_,_,_,_] [_],?_⟩
    by_cases h3:e=0
    ·subst h3
     simp -implicitDefEqProofs only[↓reduceIte,go_sem,ae,aw,Nat.reduceAdd,Nat.reduceLT,Nat.reduceLeDiff,Nat.reduceEqDiff,Nat.reduceBEq,t17]
     refine⟨hLl,by omega,by omega,?_⟩
     refine uE.cut [.box 23 1 0 1 [.d (.list n1 (ints ks))],.box 3 1 0 1 [iA w],.box 36 4 0 1 ea,.box 68 1 0 1 [iA 0],.box 36 4 0 1 [.d (.list false (ints cs)),.d (.list false (ints key)),iA R.length,.sl (H.length+5) k 0 k],.arr 110 1 k W,.box 3 1 0 1 [iA cn],.box 110 1 0 1 [.sl (H.length+10) (j+1) 0 (j+1)],cB false Q,nB 256,.arr 113 12 (j+1) (L++[Sg.ds ⟨sk,sw,⟨zr,zn,mn,mx⟩,ns,bd⟩])] _ (by rw[hLl];rfl) rfl (by simp -implicitDefEqProofs only[go_sem,Nat.reduceAdd]) (by simp -implicitDefEqProofs only[go_sem,Nat.reduceLT,ea]) ?_
     have e4:(bj Q ks w cn).take (j+1)=(bj Q ks w cn).take j++[(⟨sk,sw,⟨zr,zn,mn,mx⟩,ns,bd⟩,0)]:=by rw[List.take_add_one,hpc];rfl
     refine⟨?_,?_⟩
     ·rw[e4,List.map_append,List.map_append,hL];rfl
     ·rw[e4]
      intro x hx
      rcases List.mem_append.1 hx with hx|hx
      ·exact hq x hx
      ·rw[List.mem_singleton.1 hx]
    ·have hfe:jc Q ks cs w=e:=by
      obtain⟨hj2,hj3⟩:=List.getElem?_eq_some_iff.1 hpc
      have h4:=List.drop_eq_getElem_cons hj2
      rw[hj3]at h4
      have h5:(bj Q ks w cn).map (·.2)=((bj Q ks w cn).take j).map (·.2)++e::((bj Q ks w cn).drop (j+1)).map (·.2):=by
       conv=>lhs;rw[←List.take_append_drop j (bj Q ks w cn),h4,List.map_append,List.map_cons]
      unfold jc
      rw[e2,List.flatMap_append,List.flatMap_cons,h5,List.append_assoc,List.cons_append,←List.append_assoc]
      refine uX ?_ h3
      intro x hx
      rcases List.mem_append.1 hx with hx|hx
      ·exact hp x hx
      ·obtain⟨y,hy,rfl⟩:=List.mem_map.1 hx
       exact hq y hy
     simp -implicitDefEqProofs only[↓reduceIte,go_sem,aw,Nat.reduceAdd,Nat.reduceLT,Nat.reduceEqDiff,h3,t10,t11,ea]
     refine uE.GO [.box 23 1 0 1 [.d (.list n1 (ints ks))],.box 3 1 0 1 [iA w],.box 36 4 0 1 ea,.box 68 1 0 1 [iA e],.box 36 4 0 1 [.d (.list false (ints cs)),.d (.list false (ints key)),iA R.length,.sl (H.length+5) k 0 k],.arr 110 1 k W,.box 3 1 0 1 [iA cn],.box 110 1 0 1 [.sl (H.length+10) j 0 j],cB false Q,nB 256,.arr 113 12 j L] _ rfl rfl (by simp -implicitDefEqProofs only[go_sem,Nat.reduceAdd]) (by simp -implicitDefEqProofs only[go_sem,Nat.reduceLT,ea]) ?_
     exact⟨j,L,rfl,by rw[hfe];rfl,by rw[hfe];exact h3⟩
  ·rintro _ ⟨rfl,hq⟩
   have hpl:(bj Q ks w c).length=xg Q.length:=by simp[bj,oQ]
   rw[kI,←hpl,List.take_length]at hq
   rw[kI,←hpl,List.take_length]
   have hq2:∀x∈(bj Q ks w c).map (·.2),x=0:=fun x hx=>by obtain⟨y,hy,rfl⟩:=List.mem_map.1 hx;exact hq y hy
   have hp2:∀x∈(cs.take (k+1)).flatMap fun c=>(bj Q ks w c).map (·.2),x=0:=by
    rw[e1,List.flatMap_append,List.flatMap_cons,List.flatMap_nil,List.append_nil]
    intro x hx
    rcases List.mem_append.1 hx with hx|hx
    ·exact hp x hx
    ·exact hq2 x hx
   have hLl:(((bj Q ks w c).map (·.1)).map Sg.ds).length=(bj Q ks w c).length:=by simp
   generalize ((bj Q ks w c).map (·.1)).map Sg.ds=L at*
   generalize (bj Q ks w c).length=n at*
   simp -implicitDefEqProofs only[go_sem,Nat.reduceAdd,Nat.reduceLT,Nat.reduceBEq]
   refine⟨_,_,an.pY _ _ (H.length+7) 1 0 1 0 (H.length+10) n 0 n 12 110 113 [.sl (H.length+10) n 0 n] L (by simp -implicitDefEqProofs only[go_sem]) rfl (by simp -implicitDefEqProofs only[go_sem]),?_⟩
   have hLt:=lL L n hLl
   simp -implicitDefEqProofs only[↓reduceIte,go_sem,ae,aw,Nat.reduceAdd,Nat.reduceLT,Nat.reduceLeDiff,Nat.reduceEqDiff,Nat.reduceBEq,hLt,t13,hWl,t71]
   refine⟨by omega,by omega,?_⟩
   rw[hW]
   refine cO.cut [.box 23 1 0 1 [.d (.list n1 (ints ks))],.box 3 1 0 1 [iA w],.box 36 4 0 1 ea,.box 68 1 0 1 [iA 0],.box 36 4 0 1 [.d (.list false (ints cs)),.d (.list false (ints key)),iA R.length,.sl (H.length+5) (k+1) 0 (k+1)],.arr 110 1 (k+1) (W++[[.list false L]])] _ 6 rfl rfl (by simp -implicitDefEqProofs only[go_sem,Nat.reduceLT,ea]) ?_
   refine⟨rfl,hp2,?_⟩
   simp -implicitDefEqProofs only[↓reduceIte,go_sem,Nat.reduceLT,Nat.reduceEqDiff,t6,t9,t10,t11,t13,t14,t69,t70,hw]
  ·rintro _ _ ⟨j,L,rfl,rfl,h2⟩
   rw[if_pos h2]
   generalize jc Q ks cs w=e at*
   simp -implicitDefEqProofs only[go_sem]
   refine cY.ret ?_
   simp -implicitDefEqProofs only[↓reduceIte,go_sem,ae,Nat.reduceAdd,Nat.reduceLeDiff,Nat.reduceEqDiff,reduceCtorEq,t10,t11,bR,cZ,ea]
 ·rintro s H' ⟨rfl,hp,t6,t9,t10,t11,t13,t14,t69,t70,t71⟩
  rw[List.take_length]at hp
  rw[List.take_length]
  have hfe:jc Q ks cs w=0:=sr hp
  rw[if_neg (by rw[hfe];simp)]
  have hWl:(bC (ev Q ks cs w)).length=cs.length:=by simp[bC,ev]
  have hWt:=lL _ _ hWl
  unfold Pj.av Pj.ds
  simp only[List.map_cons,List.map_nil]
  generalize bC (ev Q ks cs w)=W at*
  generalize hm:cs.length=m at*
  simp -implicitDefEqProofs only[↓reduceIte,go_sem,Nat.reduceAdd,Nat.reduceLT,Nat.reduceBEq,t70,t71]
  refine⟨_,_,an.pY _ _ (H.length+4) 4 0 1 3 (H.length+5) m 0 m 1 36 110 [.d (.list false (ints cs)),.d (.list false (ints key)),iA R.length,.sl (H.length+5) m 0 m] W (by simp -implicitDefEqProofs only[go_sem]) rfl (by simp -implicitDefEqProofs only[go_sem]),?_⟩
  simp -implicitDefEqProofs only[↓reduceIte,go_sem,ae,aw,Nat.reduceAdd,Nat.reduceLT,Nat.reduceEqDiff,hWt,t13,t10,t11,ea]
  refine cY.ret ?_
  simp -implicitDefEqProofs only[↓reduceIte,go_sem,ae,Nat.reduceAdd,Nat.reduceLeDiff,Nat.reduceEqDiff,reduceCtorEq,t10,t11,bR,cZ]
theorem kP{R:List (List ak)}{ks:List Int}(h:cX R ks=0):0<ks.length∧ks.length≤8∧(∀k∈ks,1≤k∧k≤3)∧R.length≤4096∧im ks R=0:=by
 unfold cX at h
 split at h
 ·cases h
 ·rename_i h1
  split at h
  ·cases h
  ·refine⟨by omega,by omega,fun k hk=>?_,by omega,h⟩
   have h2:=fun hh=>h1 (.inr (.inr hh))
   rw[List.any_eq_true]at h2
   have h3:¬(k<1∨3<k):=fun hh=>h2 ⟨k,hk,decide_eq_true hh⟩
   omega
theorem vG(R:List (List ak))(ks cs key:List Int)(w:Int)(n0 n1 n2 n3:Bool)(H:aa)(hR:R.length≤1000000000)(hr:∀r∈R,r.length≤1000000000)(hk:ks.length≤100000000000000)(hcl:cs.length≤1000000000)(hkl:key.length≤1000000000)(hI:∀r∈R,∀v∈r,fV v.i):
  ah Tryz.prog 34 [.d (.list n0 (b9 R)),.d (.list n1 (ints ks)),.d (.list n2 (ints cs)),.d (.list n3 (ints key)),iA w] H (.ok (.bq [(ku R ks cs key w).1.av,iA (ku R ks cs key w).2])) H:=by
 unfold ku
 by_cases he:cX R ks=0
 ·rw[if_neg (by simpa using he)]
  have hk:=(kP he).2.1
  by_cases hb:su ks cs key
  ·rw[if_pos hb]
   exact(sn R ks cs key w n0 n1 n2 n3 H hR hr (by omega) hcl hkl he hb).jW (.cons mQ (.cons (.refl _) .nil))
  ·rw[if_neg hb]
   have h:=sd R ks cs key w n0 n1 n2 n3 H hR hr (by omega) hcl hkl hI he hb
   by_cases hf:jc (oy R key) ks cs w=0
   ·rw[if_neg (by simpa using hf)]at h⊢
    exact h
   ·rw[if_pos hf]at h⊢
    exact h.jW (.cons mQ (.cons (.refl _) .nil))
 ·rw[if_pos he]
  exact(uh R ks cs key w n0 n1 n2 n3 H hR hr hk he).jW (.cons mQ (.cons (.refl _) .nil))
abbrev Atom.av(a:Atom):AV:= .agg [iA a.eo,iA a.op,iA a.val.kind,iA a.val.i,sA a.val.s]
theorem tE(l:List Atom)(p:Atom→Bool)(g:FuncId)(caps:List AV)(n1:Bool)(H:aa)(hl:l.length≤9223372036854775807)(hf:∀v∈l,ah Tryz.prog g ([v.av]++caps) H (.ok (bA (p v))) H):
  ah Tryz.prog 111 [.d (.list n1 (l.map Atom.enc)),.fn g caps] H (.ok (iA (jF p l))) H:=by
 refine ah.aj (hint:=(fun _=>false)) Tryz.func111 (by kernel_rfl) rfl [4] (by kernel_rfl) (by decide) (by simp[Tryz.ntmps111]) ?_
 rw[Tryz.ntmps111]
 simp -implicitDefEqProofs only[↓reduceIte,go_sem,Nat.reduceLT,Int.reduceNeg,reduceCtorEq]
 refine bf (fun k s H'=>H'=H∧(∀i (hi:i<k) (hl:i<l.length),p l[i]=false)∧s 0= .d (.list n1 (l.map Atom.enc))∧s 1= .fn g caps∧s 7=iA l.length∧s 8=iA k) l.length hl (an.refl _ _) ?_ ?_ ?_
 ·refine⟨rfl,fun i hi=>by omega,?_⟩
  simp -implicitDefEqProofs only[↓reduceIte,go_sem,Nat.reduceLT,Nat.reduceEqDiff,reduceCtorEq]
 ·rintro k s H' hk hw ⟨rfl,hp,h0,h1,h7,h8⟩
  have hx:=List.getElem?_eq_getElem hk
  have hit:p l[k]=true→jF p l=k:=fun h=>nE hp hk h
  have hpp:p l[k]=false→∀i (hi:i<k+1) (hl:i<l.length),p l[i]=false:=fun h0 i hi hl'=>by
   rcases Nat.lt_or_ge i k with h|h
   ·exact hp i h hl'
   ·obtain rfl:i=k:=by omega
    exact h0
  have hfk:=hf l[k] (List.getElem_mem hk)
  generalize l[k]=v at hx hit hpp hfk
  simp -implicitDefEqProofs only[↓reduceIte,go_sem,Nat.reduceAdd,Nat.reduceLT,Nat.reduceEqDiff,reduceCtorEq,h0,h1,h7,h8,hk,hx,Atom.enc]
  refine ab.ok hfk ?_
  cases hv:p v with
  |true=>
   simp -implicitDefEqProofs only[↓reduceIte,go_sem,Nat.reduceLT,Nat.reduceEqDiff]
   refine ao.aF ?_
   simp -implicitDefEqProofs only[↓reduceIte,go_sem,Nat.reduceLT,hit hv]
  |false=>
   simp -implicitDefEqProofs only[↓reduceIte,go_sem,Nat.reduceLT,Nat.reduceEqDiff,h8]
   refine cO.same ⟨rfl,hpp hv,?_⟩
   simp -implicitDefEqProofs only[↓reduceIte,go_sem,Nat.reduceLT,Nat.reduceEqDiff,reduceCtorEq,h0,h1,h7,hw]
 ·rintro s H' ⟨rfl,hp,h0,h1,h7,h8⟩
  simp -implicitDefEqProofs only[↓reduceIte,go_sem,Nat.reduceLT,Int.reduceNeg,h7,h8]
  refine ao.aF ?_
  simp -implicitDefEqProofs only[↓reduceIte,go_sem,Nat.reduceLT,Int.reduceNeg,lz fun i hi=>hp i hi hi]
theorem iY(l:List Atom)(p:Atom→Bool)(g:FuncId)(caps:List AV)(n1:Bool)(H:aa)(hl:l.length≤9223372036854775807)(hf:∀v∈l,ah Tryz.prog g ([v.av]++caps) H (.ok (bA (p v))) H):
  ah Tryz.prog 66 [.d (.list n1 (l.map Atom.enc)),.fn g caps] H (.ok (bA (l.any p))) H:=by
 refine ah.aj (hint:=(fun _=>false)) Tryz.func66 (by kernel_rfl) rfl [4] (by kernel_rfl) (by decide) (by simp[Tryz.ntmps66]) ?_
 rw[Tryz.ntmps66]
 simp -implicitDefEqProofs only[↓reduceIte,go_sem,Nat.reduceLT,Nat.reduceEqDiff,reduceCtorEq]
 refine ab.ok (tE l p g caps n1 H hl hf) ?_
 simp -implicitDefEqProofs only[↓reduceIte,go_sem,Nat.reduceLT,oB]
 refine ao.aF ?_
 simp -implicitDefEqProofs only[↓reduceIte,go_sem,Nat.reduceLT,Bool.decide_eq_true]
abbrev Zn.av(z:Zn):AV:= .agg [iA z.rows,iA z.cj,iA z.mn.kind,iA z.mn.i,sA z.mn.s,iA z.mx.kind,iA z.mx.i,sA z.mx.s]
def uv(z:Zn)(a:Atom):Bool:=
 if a.op=1 then decide (aN a.val z.mn<0)||decide (aN z.mx a.val<0)else if a.op=2 then decide (aN z.mn a.val=0)&&decide (aN z.mx a.val=0)else if a.op=3 then !decide (aN z.mn a.val<0)
 else if a.op=4 then decide (aN a.val z.mn<0)else if a.op=5 then !decide (aN a.val z.mx<0)else if a.op=6 then decide (aN z.mx a.val<0)else true
def fz(z:Zn)(a:Atom):Bool:=
 if a.op=7 then decide (z.cj=0)else if a.op=8∨z.rows≤z.cj then decide (z.rows≤z.cj)else if z.mn.kind≠a.val.kind then true else uv z a
def ij(o:Int):Int:=if o=1 then 2 else if o=2 then 1 else if o=3 then 6 else if o=4 then 5 else if o=5 then 4 else if o=6 then 3 else 0
def kj(z:Zn)(a:Atom):Bool:=
 if a.op=7 then decide (z.rows≤z.cj)else if a.op=8 then decide (z.cj=0)else if ij a.op=0∨0<z.cj∨z.mn.kind≠a.val.kind then false else fz z ⟨a.eo,ij a.op,a.val⟩
def iO(z:Zn)(a:Atom):Nat:=if fz z a then 0 else if kj z a then z.rows else z.rows/2+z.rows%2
theorem gH(a b:ak)(H:aa):ah Tryz.prog 176 [a.av,b.av] H (.ok (bA (decide (aN a b<0)))) H:=by
 refine ah.aj (hint:=(fun _=>false)) Tryz.func176 (by kernel_rfl) rfl [4] (by kernel_rfl) (by decide) (by simp[Tryz.ntmps176]) ?_
 rw[Tryz.ntmps176]
 simp -implicitDefEqProofs only[↓reduceIte,go_sem,ae,Nat.reduceAdd,Nat.reduceLT,Nat.reduceEqDiff]
 refine ab.ok (cl _ _ _) ?_
 simp -implicitDefEqProofs only[↓reduceIte,go_sem,Nat.reduceLT]
 refine ao.ret ?_
 simp -implicitDefEqProofs only[↓reduceIte,go_sem,Nat.reduceLT]
theorem x9(z:Zn)(a:Atom)(H:aa):ah Tryz.prog 143 [z.av,a.av] H (.ok (bA (uv z a))) H:=by
 have h1:=fun H=>gH a.val z.mn H
 have h2:=fun H=>gH z.mx a.val H
 have h3:=fun H=>gH z.mn a.val H
 have h4:=fun H=>gH a.val z.mx H
 have h5:=fun H=>cl z.mn a.val H
 have h6:=fun H=>cl z.mx a.val H
 unfold uv
 generalize decide (aN a.val z.mn<0)=b1 at*
 generalize decide (aN z.mx a.val<0)=b2 at*
 generalize decide (aN z.mn a.val<0)=b3 at*
 generalize decide (aN a.val z.mx<0)=b4 at*
 generalize aN z.mn a.val=c5 at*
 generalize aN z.mx a.val=c6 at*
 obtain⟨ac,o,av⟩:=a
 simp only at h1 h2 h3 h4 h5 h6⊢
 refine ah.aj (hint:=(fun _=>false)) Tryz.func143 (by kernel_rfl) rfl [4] (by kernel_rfl) (by decide) (by simp[Tryz.ntmps143]) ?_
 rw[Tryz.ntmps143]
 simp -implicitDefEqProofs only[↓reduceIte,go_sem,ae,aw,Nat.reduceAdd,Nat.reduceLT,Nat.reduceLeDiff,Nat.reduceEqDiff]
 by_cases o1:o=1
 ·simp -implicitDefEqProofs only[↓reduceIte,go_sem,ae,Nat.reduceAdd,Nat.reduceLT,Nat.reduceLeDiff,Nat.reduceEqDiff,o1]
  refine ab.ok (h1 _) ?_
  cases b1
  case' false=>
   simp -implicitDefEqProofs only[↓reduceIte,go_sem,ae,Nat.reduceAdd,Nat.reduceLT,Nat.reduceEqDiff]
   refine ab.ok (h2 _) ?_
  all_goals
   simp -implicitDefEqProofs only[↓reduceIte,go_sem,Nat.reduceLT,Nat.reduceEqDiff,reduceCtorEq]
   refine ao.ret ?_
   simp -implicitDefEqProofs only[↓reduceIte,go_sem,Nat.reduceLT]<;>simp[*]
 by_cases o2:o=2
 ·simp -implicitDefEqProofs only[↓reduceIte,go_sem,ae,Nat.reduceAdd,Nat.reduceLT,Nat.reduceLeDiff,Nat.reduceEqDiff,Int.reduceEq,o2]
  refine ab.ok (h5 _) ?_
  by_cases e5:c5=0
  case' pos=>
   simp -implicitDefEqProofs only[↓reduceIte,go_sem,ae,Nat.reduceAdd,Nat.reduceLT,Nat.reduceEqDiff,e5]
   refine ab.ok (h6 _) ?_
  all_goals
   simp -implicitDefEqProofs only[↓reduceIte,go_sem,Nat.reduceLT,Nat.reduceEqDiff,reduceCtorEq,e5]
   refine ao.ret ?_
   simp -implicitDefEqProofs only[↓reduceIte,go_sem,Nat.reduceLT]<;>simp[*]
 by_cases o3:o=3
 case' pos=>
  simp -implicitDefEqProofs only[↓reduceIte,go_sem,ae,Nat.reduceAdd,Nat.reduceLT,Nat.reduceLeDiff,Nat.reduceEqDiff,Int.reduceEq,o3]
  refine ab.ok (h3 _) ?_
 case' neg=>
  by_cases o4:o=4
  case' pos=>
   simp -implicitDefEqProofs only[↓reduceIte,go_sem,ae,Nat.reduceAdd,Nat.reduceLT,Nat.reduceLeDiff,Nat.reduceEqDiff,Int.reduceEq,o4]
   refine ab.ok (h1 _) ?_
  case' neg=>
   by_cases o5:o=5
   case' pos=>
    simp -implicitDefEqProofs only[↓reduceIte,go_sem,ae,Nat.reduceAdd,Nat.reduceLT,Nat.reduceEqDiff,Int.reduceEq,o5]
    refine ab.ok (h4 _) ?_
   case' neg=>
    by_cases o6:o=6
    case' pos=>
     simp -implicitDefEqProofs only[↓reduceIte,go_sem,ae,Nat.reduceAdd,Nat.reduceLT,Nat.reduceEqDiff,Int.reduceEq,o6]
     refine ab.ok (h2 _) ?_
    case' neg=>simp -implicitDefEqProofs only[↓reduceIte,go_sem,Nat.reduceLT,Nat.reduceEqDiff,o1,o2,o3,o4,o5,o6]
 all_goals
  simp -implicitDefEqProofs only[↓reduceIte,go_sem,Nat.reduceLT]
  refine ao.ret ?_
  simp -implicitDefEqProofs only[↓reduceIte,go_sem,Nat.reduceLT]<;>simp[*]
theorem rf(n:Nat):((n:Int)≤0)=(n=0):=by simp
theorem lQ(z:Zn)(a:Atom)(H:aa):ah Tryz.prog 97 [z.av,a.av] H (.ok (bA (fz z a))) H:=by
 have he:=fun H=>x9 z a H
 unfold fz
 generalize uv z a=e at*
 obtain⟨ac,o,av⟩:=a
 simp only at he⊢
 refine ah.aj (hint:=(fun _=>false)) Tryz.func97 (by kernel_rfl) rfl [4] (by kernel_rfl) (by decide) (by simp[Tryz.ntmps97]) ?_
 rw[Tryz.ntmps97]
 simp -implicitDefEqProofs only[↓reduceIte,go_sem,ae,Nat.reduceAdd,Nat.reduceLT,Nat.reduceLeDiff,Nat.reduceEqDiff]
 by_cases o7:o=7
 case' pos=>simp -implicitDefEqProofs only[↓reduceIte,go_sem,ae,Nat.reduceAdd,Nat.reduceLT,Nat.reduceLeDiff,Nat.reduceEqDiff,o7,rf]
 case' neg=>
  by_cases o8:o=8
  case' pos=>simp -implicitDefEqProofs only[↓reduceIte,go_sem,ae,Nat.reduceAdd,Nat.reduceLT,Nat.reduceLeDiff,Nat.reduceEqDiff,Int.reduceEq,o8]
  case' neg=>
   by_cases hb:z.rows≤z.cj
   case' pos=>simp -implicitDefEqProofs only[↓reduceIte,go_sem,ae,Nat.reduceAdd,Nat.reduceLT,Nat.reduceLeDiff,Nat.reduceEqDiff,reduceCtorEq,o7,o8,hb]
   case' neg=>
    simp -implicitDefEqProofs only[↓reduceIte,go_sem,ae,Nat.reduceAdd,Nat.reduceLT,Nat.reduceLeDiff,Nat.reduceEqDiff,reduceCtorEq,o7,o8,hb]
    by_cases hk:z.mn.kind=av.kind
    case' pos=>
     simp -implicitDefEqProofs only[↓reduceIte,go_sem,ae,Nat.reduceAdd,Nat.reduceLT,Nat.reduceEqDiff,eq_true hk]
     refine ab.ok (he _) ?_
     simp -implicitDefEqProofs only[↓reduceIte,go_sem,Nat.reduceLT,Nat.reduceEqDiff,reduceCtorEq,eq_true hk]
    case' neg=>simp -implicitDefEqProofs only[↓reduceIte,go_sem,Nat.reduceLT,Nat.reduceEqDiff,eq_false hk]
 all_goals
  refine ao.ret ?_
  simp -implicitDefEqProofs only[↓reduceIte,go_sem,Nat.reduceLT]<;>simp[*]
theorem ua(o:Int)(H:aa):ah Tryz.prog 177 [iA o] H (.ok (iA (ij o))) H:=by
 refine ah.aj (hint:=(fun _=>false)) Tryz.func177 (by kernel_rfl) rfl [2] (by kernel_rfl) (by decide) (by simp[Tryz.ntmps177]) ?_
 rw[Tryz.ntmps177]
 simp -implicitDefEqProofs only[↓reduceIte,go_sem,aw,Nat.reduceAdd,Nat.reduceLT,Nat.reduceLeDiff,Nat.reduceEqDiff,reduceCtorEq]
 by_cases h0:o<0
 case' pos=>simp -implicitDefEqProofs only[↓reduceIte,go_sem,Nat.reduceLT,Nat.reduceEqDiff,h0]
 case' neg=>
  by_cases h7:7≤o
  case' pos=>simp -implicitDefEqProofs only[↓reduceIte,go_sem,Nat.reduceLT,Nat.reduceEqDiff,reduceCtorEq,h0,h7]
  case' neg=>
   obtain⟨n,rfl⟩:=Int.eq_ofNat_of_zero_le (show 0≤o by omega)
   rcases n with _|_|_|_|_|_|_|n
   case' succ.succ.succ.succ.succ.succ.succ=>omega
   all_goals simp -implicitDefEqProofs only[↓reduceIte,go_sem,ae,Nat.reduceAdd,Nat.reduceLT,Nat.reduceLeDiff,Nat.reduceEqDiff,Int.reduceLE,Int.reduceLT,Int.reduceToNat,reduceCtorEq]
 all_goals
  refine ao.ret ?_
  simp -implicitDefEqProofs only[↓reduceIte,go_sem,Nat.reduceAdd,Nat.reduceLT]<;>first|rfl|(unfold ij;repeat rw[if_neg (by omega)])
theorem wc(z:Zn)(a:Atom)(H:aa):ah Tryz.prog 144 [z.av,a.av] H (.ok (bA (kj z a))) H:=by
 have he:=fun H=>lQ z ⟨a.eo,ij a.op,a.val⟩ H
 have ht:=fun H=>ua a.op H
 unfold kj
 generalize fz z ⟨a.eo,ij a.op,a.val⟩=e at*
 obtain⟨ac,o,av⟩:=a
 simp only at he ht⊢
 generalize ij o=t at*
 refine ah.aj (hint:=(fun _=>false)) Tryz.func144 (by kernel_rfl) rfl [4] (by kernel_rfl) (by decide) (by simp[Tryz.ntmps144]) ?_
 rw[Tryz.ntmps144]
 simp -implicitDefEqProofs only[↓reduceIte,go_sem,ae,Nat.reduceAdd,Nat.reduceLT,Nat.reduceLeDiff,Nat.reduceEqDiff]
 by_cases o7:o=7
 case' pos=>simp -implicitDefEqProofs only[↓reduceIte,go_sem,ae,Nat.reduceAdd,Nat.reduceLT,Nat.reduceLeDiff,Nat.reduceEqDiff,o7]
 case' neg=>
  by_cases o8:o=8
  case' pos=>simp -implicitDefEqProofs only[↓reduceIte,go_sem,ae,Nat.reduceAdd,Nat.reduceLT,Nat.reduceLeDiff,Nat.reduceEqDiff,Int.reduceEq,o8,rf]
  case' neg=>
   simp -implicitDefEqProofs only[↓reduceIte,go_sem,ae,Nat.reduceAdd,Nat.reduceLT,Nat.reduceLeDiff,Nat.reduceEqDiff,o7,o8]
   refine ab.ok (ht _) ?_
   by_cases h0:t=0
   case' pos=>simp -implicitDefEqProofs only[↓reduceIte,go_sem,Nat.reduceLT,Nat.reduceEqDiff,h0]
   case' neg=>
    by_cases hn:0<(z.cj:Int)
    case' pos=>simp -implicitDefEqProofs only[↓reduceIte,go_sem,ae,Nat.reduceAdd,Nat.reduceLT,Nat.reduceLeDiff,Nat.reduceEqDiff,reduceCtorEq,h0,hn]
    case' neg=>
     by_cases hk:z.mn.kind=av.kind
     case' pos=>
      simp -implicitDefEqProofs only[↓reduceIte,go_sem,ae,aw,Nat.reduceAdd,Nat.reduceLT,Nat.reduceLeDiff,Nat.reduceEqDiff,reduceCtorEq,h0,hn,eq_true hk]
      refine ab.ok (he _) ?_
     case' neg=>simp -implicitDefEqProofs only[↓reduceIte,go_sem,ae,Nat.reduceAdd,Nat.reduceLT,Nat.reduceLeDiff,Nat.reduceEqDiff,reduceCtorEq,h0,hn,eq_false hk]
 all_goals
  simp -implicitDefEqProofs only[↓reduceIte,go_sem,Nat.reduceLT]
  refine ao.ret ?_
  simp -implicitDefEqProofs only[↓reduceIte,go_sem,Nat.reduceLT]<;>(try simp only[o7,o8,if_false])<;>simp_all
theorem y4(z:Zn)(a:Atom)(hz:z.rows≤1000000000)(H:aa):ah Tryz.prog 99 [z.av,a.av] H (.ok (iA (iO z a))) H:=by
 have h1:=fun H=>lQ z a H
 have h2:=fun H=>wc z a H
 unfold iO
 generalize fz z a=b1 at*
 generalize kj z a=b2 at*
 have e1:IntKind.i64.wrap (IntKind.i64.wrap ((z.rows:Int).tdiv 2)+max ((z.rows:Int).tmod 2) 0)=((z.rows/2+z.rows%2:Nat):Int):=by
  rw[Int.tmod_eq_emod_of_nonneg (by omega),Int.tdiv_eq_ediv_of_nonneg (by omega),wrap64_in ((z.rows:Int)/2) (by omega) (by omega),wrap64_in _ (by omega) (by omega)];omega
 refine ah.aj (hint:=(fun _=>false)) Tryz.func99 (by kernel_rfl) rfl [4] (by kernel_rfl) (by decide) (by simp[Tryz.ntmps99]) ?_
 rw[Tryz.ntmps99]
 simp -implicitDefEqProofs only[↓reduceIte,go_sem,ae,Nat.reduceAdd,Nat.reduceLT,Nat.reduceEqDiff]
 refine ab.ok (h1 _) ?_
 cases b1
 case' false=>
  simp -implicitDefEqProofs only[↓reduceIte,go_sem,ae,Nat.reduceAdd,Nat.reduceLT,Nat.reduceEqDiff]
  refine ab.ok (h2 _) ?_
  cases b2
 all_goals
  simp -implicitDefEqProofs only[↓reduceIte,go_sem,ae,Nat.reduceAdd,Nat.reduceLT,Nat.reduceLeDiff,Nat.reduceEqDiff,Int.reduceEq]
  refine ao.ret ?_
  simp -implicitDefEqProofs only[↓reduceIte,go_sem,Nat.reduceLT,reduceCtorEq,e1]<;>simp
def Zn.ds(z:Zn):List D:=[iD z.rows,iD z.cj,iD z.mn.kind,iD z.mn.i,.v (.string z.mn.s),iD z.mx.kind,iD z.mx.i,.v (.string z.mx.s)]
def bn:List (List Sg)→Nat
 |[]=>0
 |l::_=>l.length
def cz(l:List Sg)(k:Nat):Zn:=(l.map (·.ew)).getD k jD
def aJ(S:List (List Sg))(at':Int):List Zn:=if at'<0∨(bn S:Int)≤at' then[]else S.map fun l=>cz l at'.toNat
structure Pj.Ok (p:Pj):Prop where
 aE:p.aE.length≤1000000000
 len:p.bk.length≤1000000000
 many:bn p.bk≤1000000000
 same:∀l∈p.bk,l.length=bn p.bk
 small:∀l∈p.bk,∀s∈l,s.ew.rows≤1000000000
theorem Pj.Ok.eA{p:Pj}(hp:p.Ok){n:Int}{z:Zn}(h:z∈aJ p.bk n):z.rows≤1000000000:=by
 unfold aJ at h
 split at h
 ·cases h
 ·obtain⟨l,hl,rfl⟩:=List.mem_map.1 h
  unfold cz
  rw[List.getD_eq_getElem?_getD,List.getElem?_map]
  cases e:l[n.toNat]? with
  |none=>simp[jD]
  |some s=>exact hp.small l hl s (List.mem_of_getElem? e)
theorem um(p:Pj)(hp:p.Ok)(c:Int)(H:aa):ah Tryz.prog 96 [p.av,iA c] H (.ok (iA (cC c p.aE))) H:=by
 refine ah.aj (hint:=(fun _=>false)) Tryz.func96 (by kernel_rfl) rfl [4] (by kernel_rfl) (by decide) (by simp[Tryz.ntmps96]) ?_
 rw[Tryz.ntmps96]
 simp -implicitDefEqProofs only[↓reduceIte,go_sem,ae,Nat.reduceAdd,Nat.reduceLT,Nat.reduceLeDiff,Nat.reduceEqDiff,Pj.av,Pj.ds]
 refine ab.ok (jk p.aE c false _ (by have:=hp.aE;omega)) ?_
 simp -implicitDefEqProofs only[↓reduceIte,go_sem,Nat.reduceLT]
 refine ao.ret ?_
 simp -implicitDefEqProofs only[↓reduceIte,go_sem,Nat.reduceLT]
theorem lO{S:List (List Sg)}{k:Nat}(h:k<S.length):(bC S)[k]?=some [.list false (S[k].map Sg.ds)]:=by simp[bC,h]
theorem ue(p:Pj)(H:aa):ah Tryz.prog 94 [p.av] H (.ok (iA (bn p.bk))) H:=by
 obtain⟨cs,key,rows,S⟩:=p
 refine ah.aj (hint:=(fun _=>false)) Tryz.func94 (by kernel_rfl) rfl [2] (by kernel_rfl) (by decide) (by simp[Tryz.ntmps94]) ?_
 rw[Tryz.ntmps94]
 cases S with
 |nil=>
  simp -implicitDefEqProofs only[↓reduceIte,go_sem,ae,Nat.reduceAdd,Nat.reduceLT,Nat.reduceEqDiff,Pj.av,Pj.ds,bC]
  refine ao.ret ?_
  simp -implicitDefEqProofs only[↓reduceIte,go_sem,Nat.reduceLT,bn]
 |cons l S=>
  simp -implicitDefEqProofs only[↓reduceIte,go_sem,ae,Nat.reduceAdd,Nat.reduceLT,Nat.reduceEqDiff,Int.reduceLE,Int.reduceToNat,Pj.av,Pj.ds,bC,show ¬((S.length:Int)+1=0) by omega]
  refine ao.ret ?_
  simp -implicitDefEqProofs only[↓reduceIte,go_sem,Nat.reduceLT,bn]
theorem dw(l:List Zn):(l.map Zn.ds).length=l.length:=by simp
theorem m8(p:Pj)(hp:p.Ok)(n:Int)(hn:fV n)(H:aa):ah Tryz.prog 46 [p.av,iA n] H (.ok (.d (.list false ((aJ p.bk n).map Zn.ds)))) H:=by
 have hg:=fun H=>ue p H
 have hm:=hp.many
 have hl:=hp.len
 have hs:=hp.same
 unfold aJ
 by_cases h:n<0∨(bn p.bk:Int)≤n
 ·rw[if_pos h]
  suffices hh:ah Tryz.prog 46 [p.av,iA n] H (.ok (.d (.v (.slice none 0 0)))) H from hh.Eo .nil
  obtain⟨cs,key,rows,S⟩:=p
  simp only at*
  generalize bn S=g at*
  refine ah.aj (hint:=(fun _=>false)) Tryz.func46 (by kernel_rfl) rfl [4] (by kernel_rfl) (by decide) (by simp[Tryz.ntmps46]) ?_
  rw[Tryz.ntmps46]
  by_cases h0:n<0
  case' pos=>simp -implicitDefEqProofs only[↓reduceIte,go_sem,Nat.reduceAdd,Nat.reduceLT,Nat.reduceEqDiff,Pj.av,Pj.ds,h0]
  case' neg=>
   simp -implicitDefEqProofs only[↓reduceIte,go_sem,ae,Nat.reduceAdd,Nat.reduceLT,Nat.reduceEqDiff,Pj.av,Pj.ds,h0]
   refine ab.ok (hg _) ?_
   simp -implicitDefEqProofs only[↓reduceIte,go_sem,Nat.reduceLT,Nat.reduceEqDiff,reduceCtorEq,show(g:Int)≤n by omega]
  all_goals
   refine ao.ret ?_
   simp -implicitDefEqProofs only[↓reduceIte,go_sem,Nat.reduceLT]
 rw[if_neg h]
 obtain⟨k,rfl⟩:=Int.eq_ofNat_of_zero_le (show 0≤n by omega)
 obtain⟨cs,key,rows,S⟩:=p
 simp only at*
 generalize bn S=g at*
 refine ah.aj (hint:=(fun _=>false)) Tryz.func46 (by kernel_rfl) rfl [4] (by kernel_rfl) (by decide) (by simp[Tryz.ntmps46]) ?_
 rw[Tryz.ntmps46]
 simp -implicitDefEqProofs only[↓reduceIte,go_sem,ae,Nat.reduceAdd,Nat.reduceLT,Nat.reduceEqDiff,Pj.av,Pj.ds,show ¬(k:Int)<0 by omega]
 refine ab.ok (hg _) ?_
 simp -implicitDefEqProofs only[↓reduceIte,go_sem,ae,Nat.reduceAdd,Nat.reduceLT,Nat.reduceEqDiff,reduceCtorEq,show ¬(g:Int)≤k by omega,cV]
 refine bf (fun j s H'=>H'=H++[.box 36 4 0 1 [.d (.list false (ints cs)),.d (.list false (ints key)),iA rows,.d (.list false (bC S))],.arr 102 8 j (((S.take j).map fun l=>cz l k).map Zn.ds)]∧s 1=iA k∧s 5= .sl (H.length+1) j 0 j∧s 17= .d (.list false (bC S))∧s 18=iA S.length∧s 19=iA j) S.length (by omega) (an.fy _ _ 5 102 8 (by decide) (by simp -implicitDefEqProofs only[↓reduceIte,go_sem,Nat.reduceLT,Nat.reduceEqDiff]) _) ?_ ?_ ?_
 ·refine⟨?_,?_⟩
  ·simp -implicitDefEqProofs only[go_sem,List.take_zero]
  ·simp -implicitDefEqProofs only[↓reduceIte,go_sem,Nat.reduceLT,Nat.reduceEqDiff]
 ·rintro j s H' hj hw ⟨rfl,t1,t5,t17,t18,t19⟩
  have hx:=lO hj
  have hlj:=hs S[j] (List.getElem_mem hj)
  have e1:((S.take (j+1)).map fun l=>cz l k).map Zn.ds=((S.take j).map fun l=>cz l k).map Zn.ds++[(cz S[j] k).ds]:=by rw[List.take_succ_eq_append_getElem hj,List.map_append,List.map_append];rfl
  have e2:(((S.take j).map fun l=>cz l k).map Zn.ds).length=j:=by simp;omega
  have hk:k<S[j].length:=by omega
  have hz:(S[j].map Sg.ds)[k]?=some S[j][k].ds:=by simp[hk]
  have hze:cz S[j] k=S[j][k].ew:=by simp[cz,hk]
  rw[e1,hze]
  generalize ((S.take j).map fun l=>cz l k).map Zn.ds=Z at*
  generalize S[j][k]=sg at*
  generalize S[j]=l at*
  obtain⟨sk,sw,⟨zr,zn,mn,mx⟩,ns,bd⟩:=sg
  simp -implicitDefEqProofs only[↓reduceIte,go_sem,Nat.reduceAdd,Nat.reduceLT,Nat.reduceLeDiff,Nat.reduceEqDiff,t1,t5,t17,t18,t19,hj,hx,hz,Sg.ds,iD,e2]
  refine⟨by omega,by omega,cO.same ⟨rfl,?_⟩⟩
  simp -implicitDefEqProofs only[↓reduceIte,go_sem,Nat.reduceLT,Nat.reduceEqDiff,t1,t17,t18,hw]
 ·rintro s H' ⟨rfl,t1,t5,t17,t18,t19⟩
  rw[List.take_length]at*
  simp -implicitDefEqProofs only[↓reduceIte,go_sem,Nat.reduceLT,Nat.reduceEqDiff,t18,t19,t5]
  refine ao.ret ?_
  simp -implicitDefEqProofs only[↓reduceIte,go_sem,Nat.reduceLT,List.take_of_length_le (show((S.map fun l=>cz l k).map Zn.ds).length≤S.length by simp)]
theorem Ds{H:aa}{i:Nat}{o:aA}(h:H[i]?=some o)(T:aa):(H++T)[i]?=some o:=by rw[List.getElem?_append_left (al h)];exact h
def gR(p:Pj)(Z:List Zn)(l:List Atom):Bool:=l.any fun a=>decide (0≤cC a.eo p.aE∧cC a.eo p.aE<Z.length)&&fz (Z.getD (cC a.eo p.aE).toNat jD) a
theorem tB(p:Pj)(hp:p.Ok)(Z:List Zn)(hZ:Z.length≤1000000000)(a:Atom)(i j:Nat)(H:aa)(hi:H[i]?=some (.box 36 4 0 1 (p.ds.map .d)))(hj:H[j]?=some (.box 96 1 0 1 [.d (.list false (Z.map Zn.ds))])):
  ah Tryz.prog 95 [a.av,.ptr i 0 0 0,.ptr j 0 0 0] H (.ok (bA (decide (0≤cC a.eo p.aE∧cC a.eo p.aE<Z.length)&&fz (Z.getD (cC a.eo p.aE).toNat jD) a))) H:=by
 have hpl:=fun H=>um p hp a.eo H
 have hc:=hp.aE
 have hi2:=fun T=>Ds hi T
 have hj2:=fun T=>Ds hj T
 have hle:cC a.eo p.aE<p.aE.length:=by
  unfold cC
  split
  ·rename_i h;have:=List.idxOf_lt_length_of_mem h;omega
  ·omega
 generalize cC a.eo p.aE=x at*
 refine ah.aj (hint:=(fun _=>false)) Tryz.func95 (by kernel_rfl) rfl [4] (by kernel_rfl) (by decide) (by simp[Tryz.ntmps95]) ?_
 rw[Tryz.ntmps95]
 simp -implicitDefEqProofs only[↓reduceIte,go_sem,ae,Nat.reduceAdd,Nat.reduceLT,Nat.reduceLeDiff,Nat.reduceEqDiff,hi2,Pj.ds]
 refine ab.ok (hpl _) ?_
 simp -implicitDefEqProofs only[↓reduceIte,go_sem,Nat.reduceLT]
 refine aR K.mixed (by kernel_rfl) ?_
 by_cases h0:x<0
 ·simp -implicitDefEqProofs only[↓reduceIte,go_sem,Nat.reduceLT,Nat.reduceEqDiff,reduceCtorEq,show ¬(0:Int)≤x by omega]
  refine ao.ret ?_
  simp -implicitDefEqProofs only[↓reduceIte,go_sem,Nat.reduceLT,show ¬(0:Int)≤x by omega,false_and,Bool.false_and,decide_false]
 obtain⟨k,rfl⟩:=Int.eq_ofNat_of_zero_le (show 0≤x by omega)
 by_cases hk:k<Z.length
 ·have hz:(Z.map Zn.ds)[k]?=some Z[k].ds:=by simp[hk]
  have hzd:Z.getD k jD=Z[k]:=by simp[hk]
  have hno:=fun H=>lQ Z[k] a H
  simp only[Int.toNat_natCast]
  rw[hzd]
  generalize Z[k]=z at*
  simp -implicitDefEqProofs only[↓reduceIte,go_sem,ae,Nat.reduceAdd,Nat.reduceLT,Nat.reduceEqDiff,hj2,hk,hz,Zn.ds,iD,dw]
  refine ab.ok (hno _) ?_
  simp -implicitDefEqProofs only[↓reduceIte,go_sem,Nat.reduceLT,Nat.reduceEqDiff]
  refine ao.ret ?_
  simp -implicitDefEqProofs only[↓reduceIte,go_sem,Nat.reduceLT,hk,true_and,decide_true,Bool.true_and]
 ·simp -implicitDefEqProofs only[↓reduceIte,go_sem,ae,Nat.reduceLT,Nat.reduceEqDiff,reduceCtorEq,hj2,hk,dw]
  refine ao.ret ?_
  simp -implicitDefEqProofs only[↓reduceIte,go_sem,Nat.reduceLT,hk,and_false,decide_false,Bool.false_and]
theorem vw(p:Pj)(hp:p.Ok)(l:List Atom)(n1:Bool)(hl:l.length≤1000000000)(n:Int)(hn:fV n)(H:aa):ah Tryz.prog 47 [p.av,.d (.list n1 (l.map Atom.enc)),iA n] H (.ok (bA (gR p (aJ p.bk n) l))) H:=by
 have hg:=fun H=>m8 p hp n hn H
 have hZ:(aJ p.bk n).length≤1000000000:=by unfold aJ;split;simp;simp;exact hp.len
 generalize aJ p.bk n=Z at*
 refine ah.aj (hint:=(fun _=>false)) Tryz.func47 (by kernel_rfl) rfl [6] (by kernel_rfl) (by decide) (by simp[Tryz.ntmps47]) ?_
 rw[Tryz.ntmps47]
 simp -implicitDefEqProofs only[↓reduceIte,go_sem,ae,Nat.reduceAdd,Nat.reduceLT,Nat.reduceEqDiff,Pj.av,Pj.ds]
 refine ab.ok (hg _) ?_
 simp -implicitDefEqProofs only[↓reduceIte,go_sem,aw,Nat.reduceLT,Nat.reduceEqDiff]
 refine ab.ok (iY l _ _ _ n1 _ (by omega) fun a _=>tB p hp Z hZ a _ _ _ (by simp[Pj.ds]) (by simp)) ?_
 simp -implicitDefEqProofs only[↓reduceIte,go_sem,Nat.reduceLT]
 refine ao.ret ?_
 simp -implicitDefEqProofs only[↓reduceIte,go_sem,Nat.reduceLT,gR]
theorem oH(z:Zn)(v:ak):(aV z v).rows=z.rows:=by
 unfold aV
 split
 ·rfl
 ·unfold gi;split<;>(unfold fP;split<;>(unfold fE;split<;>rfl))
theorem wB(l:List ak):(n6 l).rows=l.length:=by
 have:∀(m:List ak) (z:Zn),(m.foldl aV z).rows=z.rows:=by
  intro m
  induction m with
  |nil=>exact fun z=>rfl
  |cons v m ih=>exact fun z=>(ih _).trans (oH z v)
 exact this l _
theorem oo{l:List ak}{k w:Int}(h:(jK l k w).2=0):(jK l k w).1.ew=n6 l:=by
 unfold jK at h⊢
 split
 ·rename_i h1;rw[if_pos h1]at h;exact absurd h h1
 ·rename_i h1
  rw[if_neg h1]at h
  split
  ·rename_i h2;rw[if_pos h2]at h;cases h
  ·rename_i h2
   rw[if_neg h2]at h
   split
   ·rename_i h3;rw[if_pos h3]at h;exact absurd h h3
   ·rfl
theorem ta{l:List Int}(h:j3 l=0):∀x∈l,x=0:=by
 intro x hx
 unfold j3 at h
 cases e:l.find? fun e=>decide (e≠0)with
 |none=>have:=List.find?_eq_none.1 e x hx;simpa using this
 |some y=>
  rw[e]at h
  have:=List.find?_some e
  simp at this h
  exact absurd h this
structure jP (R:List (List ak)) (ks cs key:List Int) (w:Int) (p:Pj):Prop where
 check:cX R ks=0
 G6:¬su ks cs key
 pieces:∀c∈cs,∀x∈bj (oy R key) ks w c,x.2=0
 eq:p=⟨cs,key,R.length,ev (oy R key) ks cs w⟩
theorem uG{R:List (List ak)}{ks cs key:List Int}{w:Int}(h:(ku R ks cs key w).2=0):jP R ks cs key w (ku R ks cs key w).1:=by
 unfold ku at h⊢
 split
 ·rename_i h1;rw[if_pos h1]at h;exact absurd h h1
 ·rename_i h1
  rw[if_neg h1]at h
  split
  ·rename_i h2;rw[if_pos h2]at h;cases h
  ·rename_i h2
   rw[if_neg h2]at h
   split
   ·rename_i h3;rw[if_pos h3]at h;exact absurd h h3
   ·rename_i h3
    refine⟨by simpa using h1,h2,fun c hc x hx=>?_,rfl⟩
    exact ta (Classical.not_not.1 h3) _ (List.mem_flatMap.2 ⟨c,hc,List.mem_map.2 ⟨x,hx,rfl⟩⟩)
theorem xy(R:List (List ak))(key:List Int):(oy R key).length=R.length:=St.aX _
theorem Bp(R:List (List ak))(k:Nat):(xh R k).length=min 256 (R.length-256* k):=by simp[xh]
theorem vM(Q:List (List ak))(ks:List Int)(w c:Int):(bj Q ks w c).length=xg Q.length:=by simp[bj,oQ]
theorem jP.Hd{R:List (List ak)}{ks cs key:List Int}{w:Int}{p:Pj}(h:jP R ks cs key w p){l:List Sg}(hl:l∈p.bk):l.length=xg R.length∧∀(k:Nat) (hk:k<l.length),l[k].ew.rows=min 256 (R.length-256* k):=by
 rw[h.eq]at hl
 obtain⟨c,hc,rfl⟩:=List.mem_map.1 hl
 have h1:=h.pieces c hc
 refine⟨by rw[List.length_map,vM,xy],fun k hk=>?_⟩
 rw[List.length_map]at hk
 have h2:=h1 _ (List.getElem_mem hk)
 rw[List.getElem_map]
 have hk2:k<(oQ (oy R key)).length:=by simpa[bj]using hk
 have e:(bj (oy R key) ks w c)[k]=jK (iC c (xh (oy R key) k)) (ks.getD c.toNat 0) w:=by simp[bj,oQ]
 rw[e]at h2⊢
 rw[oo h2,wB]
 simp[iC,Bp,xy]
theorem jP.many{R:List (List ak)}{ks cs key:List Int}{w:Int}{p:Pj}(h:jP R ks cs key w p):bn p.bk=xg R.length:=by
 have h2:p.bk.length=cs.length:=by rw[h.eq];simp[ev]
 have h3:cs.length≠0:=fun e=>h.G6 (.inl e)
 cases e:p.bk with
 |nil=>rw[e]at h2;simp at h2;omega
 |cons l S=>exact(h.Hd (l:=l) (by rw[e];simp)).1
theorem jP.ok{R:List (List ak)}{ks cs key:List Int}{w:Int}{p:Pj}(h:jP R ks cs key w p)(hc:cs.length≤1000000000):p.Ok:=by
 have hR:=(kP h.check).2.2.2.1
 refine⟨by rw[h.eq];exact hc,by rw[h.eq];simpa[ev]using hc,by rw[h.many];unfold xg;omega,fun l hl=>by rw[h.many];exact(h.Hd hl).1,fun l hl s hs=>?_⟩
 obtain⟨k,hk,rfl⟩:=List.mem_iff_getElem.1 hs
 rw[(h.Hd hl).2 k hk]
 omega
def fN(l:List Int):List (Int×AV):=l.map fun k=>(k,.d (.v (.bool true)))
theorem n9(n:Int):∀(l:List Int) (i:Nat),n∈l→∃j,eO n (fN l) i=some (j,.d (.v (.bool true)))
 |[],_,h=>by simp at h
 |m::l,i,h=>by
  simp only[fN,List.map_cons,eO]
  by_cases e:n=m
  ·exact⟨i,by simp[e]⟩
  ·simp only[if_neg e]
   exact n9 n l (i+1) (by simpa[e]using h)
theorem gY(n:Int):∀(l:List Int) (i:Nat),n∉l→eO n (fN l) i=none
 |[],_,_=>rfl
 |m::l,i,h=>by
  simp only[List.mem_cons,not_or]at h
  simp only[fN,List.map_cons,eO,if_neg h.1]
  exact gY n l (i+1) h.2
theorem wq{n:Int}{l:List Int}(h:n∈l):dz n (fN l)=some (.d (.v (.bool true))):=by
 obtain⟨j,hj⟩:=n9 n l 0 h
 simp[dz,hj]
theorem qu{n:Int}{l:List Int}(h:n∉l):dz n (fN l)=none:=by simp[dz,gY n l 0 h]
theorem rv{n:Int}{l:List Int}(h:n∉l):iT n (.d (.v (.bool true))) (fN l)=fN (l++[n]):=by
 unfold iT
 rw[gY n l 0 h]
 simp[fN]
def tell(out:List Int)(c:Int):List Int:=if c∈out then out else out++[c]
def dR(H:aa)(q:aA)(l:List Int)(ag:Nat)(T:aa):aa:=H++q:: .mp .i64 (fN l):: .box 115 1 0 1 [.mp (H.length+1)]:: .box 23 1 0 1 [.sl (H.length+4) ag 0 l.length]:: .arr 3 1 ag (ints l)::T
theorem gZ(n:Int)(l:List Int)(hl:l.length≤1000000)(H:aa)(q:aA)(ag:Nat)(T:aa):
  ∃ver',ah Tryz.prog 55 [iA n,.ptr (H.length+2) 0 0 0,.ptr (H.length+3) 0 0 0] (dR H q l ag T) (.ok (.bq [])) (dR H q (tell l n) ver' T):=by
 by_cases hn:n∈l
 ·refine⟨ag,?_⟩
  refine ah.aj (hint:=(fun _=>false)) Tryz.func55 (by kernel_rfl) rfl [] (by kernel_rfl) (by decide) (by simp[Tryz.ntmps55]) ?_
  rw[Tryz.ntmps55]
  simp -implicitDefEqProofs only[↓reduceIte,go_sem,ae,Nat.reduceLT,Nat.reduceEqDiff,reduceCtorEq,dR,wq hn,tell,hn]
  exact⟨_,an.refl _ _,rfl⟩
 ·refine⟨ag+1,?_⟩
  refine ah.aj (hint:=(fun _=>false)) Tryz.func55 (by kernel_rfl) rfl [] (by kernel_rfl) (by decide) (by simp[Tryz.ntmps55]) ?_
  rw[Tryz.ntmps55]
  simp -implicitDefEqProofs only[↓reduceIte,go_sem,ae,aw,Nat.reduceLT,Nat.reduceLeDiff,Nat.reduceEqDiff,reduceCtorEq,dR,qu hn,tell,hn]
  simp -implicitDefEqProofs only[go_sem,rv hn,az,gk]
  exact⟨by omega,by omega,_,an.refl _ _,rfl⟩
def iE(a:Int×Int):List D:=[.v (.int .i64 a.1),.v (.int .i64 a.2)]
def jh(j:Int×D×D×D):List D:=[.v (.int .i64 j.1),j.2.1,j.2.2.1,j.2.2.2]
def fl(o:List Int)(a:Int×Int):List Int:=if a.1=1 then o else tell o a.2
def mw(o:List Int)(j:Int×D×D×D):List Int:=tell o j.1
def nW(aE:List Int)(bJ:List (Int×Int))(aL:List (Int×D×D×D)):List Int:=aL.foldl mw (bJ.foldl fl (aE.foldl tell []))
theorem dj{α:Type}(f:List Int→α→List Int)(hf:∀o x,(f o x).length≤o.length+1):∀(l:List α) (o:List Int),(l.foldl f o).length≤o.length+l.length
 |[],o=>by simp
 |x::l,o=>by
  have:=dj f hf l (f o x)
  have:=hf o x
  simp only[List.foldl_cons,List.length_cons];omega
theorem hO(o:List Int)(n:Int):(tell o n).length≤o.length+1:=by unfold tell;split<;>simp
theorem nD(o:List Int)(a:Int×Int):(fl o a).length≤o.length+1:=by unfold fl;split;omega;exact hO _ _
theorem ia{α β:Type}(f:β→α→β)(o:β)(l:List α)(k:Nat)(h:k<l.length):(l.take (k+1)).foldl f o=f ((l.take k).foldl f o) l[k]:=by
 rw[List.take_succ_eq_append_getElem h,List.foldl_append];rfl
theorem pI(aE:List Int)(bJ:List (Int×Int))(aL:List (Int×D×D×D))(x0 x1 x4 x6 x7:D)(n2 n3 n5:Bool)(hc:aE.length≤100000)(ha:bJ.length≤100000)(hj:aL.length≤100000)(H:aa):
  ah Tryz.prog 16 [.agg [.d x0,.d x1,.d (.list n2 (aL.map jh)),.d (.list n3 (ints aE)),.d x4,.d (.list n5 (bJ.map iE)),.d x6,.d x7]] H (.ok (.d (.list false (ints (nW aE bJ aL))))) H:=by
 refine ah.aj (hint:=(fun _=>false)) Tryz.func16 (by kernel_rfl) rfl [2] (by kernel_rfl) (by decide) (by simp[Tryz.ntmps16]) ?_
 rw[Tryz.ntmps16]
 simp -implicitDefEqProofs only[↓reduceIte,go_sem,ae,aw,Nat.reduceAdd,Nat.reduceLT,Nat.reduceLeDiff,Nat.reduceEqDiff]
 have hq:∃q,q=aA.box 30 8 0 1 [.d x0,.d x1,.d (.list n2 (aL.map jh)),.d (.list n3 (ints aE)),.d x4,.d (.list n5 (bJ.map iE)),.d x6,.d x7]:=⟨_,rfl⟩
 obtain⟨q,hq⟩:=hq
 have hb:∀m,q.below m=true:=by intro m;subst hq;simp -implicitDefEqProofs only[go_sem]
 rw[←hq]
 have hW:=fun s=>an.eg (H0:=H) s (H++[q,.mp .i64 [],.box 115 1 0 1 [.mp (H.length+1)],.box 23 1 0 1 [.d (.v (.slice none 0 0))]]) (H.length+3) 23 1 0 1 [.d (.v (.slice none 0 0))] 0 (.d (.v (.slice none 0 0))) 3 1 (by decide) (by simp[]) rfl rfl
 refine bf (fun k s H'=>∃ag,H'=dR H q ((aE.take k).foldl tell []) ag []∧s 1= .ptr H.length 0 0 0∧s 5= .fn 55 [.ptr (H.length+2) 0 0 0,.ptr (H.length+3) 0 0 0]∧s 15= .d (.list n3 (ints aE))∧s 16=iA aE.length∧s 17=iA k∧s 4= .ptr (H.length+3) 0 0 0) aE.length (by omega) (hW _) ?_ ?_ ?_
 ·refine⟨0,?_⟩
  simp -implicitDefEqProofs only[↓reduceIte,go_sem,Nat.reduceAdd,Nat.reduceLT,Nat.reduceEqDiff,dR,fN,mX,az]
 ·rintro k s H' hk hw ⟨ag,rfl,h1,h5,h15,h16,h17,h4⟩
  simp -implicitDefEqProofs only[↓reduceIte,go_sem,Nat.reduceLT,Nat.reduceEqDiff,h5,h15,h16,h17,hk,b5 aE k hk]
  have hl:=dj tell hO (aE.take k) []
  have hl2:=List.length_take_le k aE
  obtain⟨ver',hd⟩:=gZ aE[k] ((aE.take k).foldl tell []) (by simp at hl;omega) H q ag []
  refine ab.ok hd ?_
  simp -implicitDefEqProofs only[↓reduceIte,go_sem,Nat.reduceLT,Nat.reduceEqDiff,h17]
  refine cO.same ⟨ver',?_⟩
  simp -implicitDefEqProofs only[↓reduceIte,go_sem,Nat.reduceLT,Nat.reduceEqDiff,dR,h1,h5,h15,h16,h4,ia tell [] aE k hk,hw]
 ·rintro s H' ⟨ag,rfl,h1,h5,h15,h16,h17,h4⟩
  generalize hl1:(aE.take aE.length).foldl tell []=l1
  have hn1:=dj tell hO (aE.take aE.length) []
  rw[hl1]at hn1
  simp -implicitDefEqProofs only[↓reduceIte,go_sem,ae,Nat.reduceAdd,Nat.reduceLT,Nat.reduceLeDiff,Nat.reduceEqDiff,h1,h16,h17,dR,hq]
  rw[←hq]
  clear h15 h16 h17
  refine bf (fun k s H'=>∃ag,H'=dR H q ((bJ.take k).foldl fl l1) ag []∧s 1= .ptr H.length 0 0 0∧s 5= .fn 55 [.ptr (H.length+2) 0 0 0,.ptr (H.length+3) 0 0 0]∧s 26= .d (.list n5 (bJ.map iE))∧s 27=iA bJ.length∧s 28=iA k∧s 4= .ptr (H.length+3) 0 0 0) bJ.length (by omega) (an.refl _ _) ?_ ?_ ?_
  ·refine⟨ag,?_⟩
   simp -implicitDefEqProofs only[↓reduceIte,go_sem,Nat.reduceLT,Nat.reduceEqDiff,dR,h1,h5,h4,List.foldl_nil]
  ·rintro k s H' hk hw ⟨ag,rfl,h1,h5,h15,h16,h17,h4⟩
   have hx:=List.getElem?_eq_getElem hk
   have hl:=dj fl nD (bJ.take k) l1
   have hl2:=List.length_take_le k bJ
   have hsn:=ia fl l1 bJ k hk
   generalize bJ[k]=x at hx hsn
   simp -implicitDefEqProofs only[↓reduceIte,go_sem,ae,aw,Nat.reduceAdd,Nat.reduceLT,Nat.reduceLeDiff,Nat.reduceEqDiff,h15,h16,h17,hk,hx,iE,dR]
   by_cases hop:x.1=1
   ·refine cx (by simp -implicitDefEqProofs only[go_sem,hop]) ?_
    simp -implicitDefEqProofs only[↓reduceIte,go_sem,Nat.reduceLT,Nat.reduceEqDiff,h17]
    refine cO.cut [_,_,_,_,_] _ 5 rfl rfl (by simp -implicitDefEqProofs only[go_sem,Nat.reduceLT,hb,fN];simp[kY]) ⟨ag,?_⟩
    simp -implicitDefEqProofs only[↓reduceIte,go_sem,Nat.reduceLT,Nat.reduceEqDiff,dR,h1,h5,h15,h16,h4,hsn,fl,hop,hw]
   ·refine cF (by simp -implicitDefEqProofs only[go_sem,hop]) ?_
    simp -implicitDefEqProofs only[↓reduceIte,go_sem,ae,Nat.reduceAdd,Nat.reduceLT,Nat.reduceEqDiff,h5]
    obtain⟨ver',hd⟩:=gZ x.2 ((bJ.take k).foldl fl l1) (by simp at hl hn1;omega) H q ag [.box 118 2 0 1 [iA x.1,iA x.2]]
    refine ab.ok hd ?_
    simp -implicitDefEqProofs only[↓reduceIte,go_sem,Nat.reduceLT,Nat.reduceEqDiff,h17,dR]
    refine cO.cut [_,_,_,_,_] _ 5 rfl rfl (by simp -implicitDefEqProofs only[go_sem,Nat.reduceLT,hb,fN];simp[kY]) ⟨ver',?_⟩
    simp -implicitDefEqProofs only[↓reduceIte,go_sem,Nat.reduceLT,Nat.reduceEqDiff,h1,h5,h15,h16,h4,hsn,fl,hop,hw]
  ·rintro s H' ⟨ag,rfl,h1,h5,h15,h16,h17,h4⟩
   generalize hl2:(bJ.take bJ.length).foldl fl l1=l2
   have hn2:=dj fl nD (bJ.take bJ.length) l1
   rw[hl2]at hn2
   simp -implicitDefEqProofs only[↓reduceIte,go_sem,ae,Nat.reduceAdd,Nat.reduceLT,Nat.reduceLeDiff,Nat.reduceEqDiff,h1,h16,h17,dR,hq]
   rw[←hq]
   clear h15 h16 h17
   refine bf (fun k s H'=>∃ag,H'=dR H q ((aL.take k).foldl mw l2) ag []∧s 1= .ptr H.length 0 0 0∧s 5= .fn 55 [.ptr (H.length+2) 0 0 0,.ptr (H.length+3) 0 0 0]∧s 41= .d (.list n2 (aL.map jh))∧s 42=iA aL.length∧s 43=iA k∧s 4= .ptr (H.length+3) 0 0 0) aL.length (by omega) (an.refl _ _) ?_ ?_ ?_
   ·refine⟨ag,?_⟩
    simp -implicitDefEqProofs only[↓reduceIte,go_sem,Nat.reduceLT,Nat.reduceEqDiff,dR,h1,h5,h4,List.foldl_nil]
   ·rintro k s H' hk hw ⟨ag,rfl,h1,h5,h15,h16,h17,h4⟩
    have hx:=List.getElem?_eq_getElem hk
    have hl:=dj mw (fun o j=>hO o _) (aL.take k) l2
    have hl2:=List.length_take_le k aL
    have hsn:=ia mw l2 aL k hk
    generalize aL[k]=x at hx hsn
    simp -implicitDefEqProofs only[↓reduceIte,go_sem,ae,aw,Nat.reduceAdd,Nat.reduceLT,Nat.reduceLeDiff,Nat.reduceEqDiff,h5,h15,h16,h17,hk,hx,jh,dR]
    obtain⟨ver',hd⟩:=gZ x.1 ((aL.take k).foldl mw l2) (by simp at hl hn1 hn2;omega) H q ag [.box 120 4 0 1 [iA x.1,.d x.2.1,.d x.2.2.1,.d x.2.2.2]]
    refine ab.ok hd ?_
    simp -implicitDefEqProofs only[↓reduceIte,go_sem,Nat.reduceLT,Nat.reduceEqDiff,h17,dR]
    refine cO.cut [_,_,_,_,_] _ 5 rfl rfl (by simp -implicitDefEqProofs only[go_sem,Nat.reduceLT,hb,fN];simp[kY]) ⟨ver',?_⟩
    simp -implicitDefEqProofs only[↓reduceIte,go_sem,Nat.reduceLT,Nat.reduceEqDiff,h1,h5,h15,h16,h4,hsn,mw,hw]
   ·rintro s H' ⟨ag,rfl,h1,h5,h15,h16,h17,h4⟩
    simp -implicitDefEqProofs only[↓reduceIte,go_sem,ae,Nat.reduceLT,Nat.reduceEqDiff,h16,h17,h4,dR]
    refine ao.ret ?_
    simp -implicitDefEqProofs only[↓reduceIte,go_sem,Nat.reduceLT]
    rw[←hl2,←hl1]
    simp[nW,cN,az]
def c8(l:List Atom)(o:List Int):List Atom:=o.filterMap fun i=>if 0≤i then l[i.toNat]? else none
theorem ma(l:List Atom)(o:List Int)(k:Nat)(h:k<o.length):c8 l (o.take (k+1))=c8 l (o.take k)++(if 0≤o[k]then(l[(o[k]).toNat]?).toList else[]):=by
 unfold c8
 rw[List.take_succ_eq_append_getElem h,List.filterMap_append]
 congr 1
 by_cases h0:0≤o[k]
 ·cases hg:l[(o[k]).toNat]?<;>simp[h0,hg]
 ·simp[h0]
theorem gA(l:List Atom)(o:List Int):(c8 l o).length≤o.length:=List.length_filterMap_le _ _
theorem mD(l:List Atom)(o:List Int)(n1 n2:Bool)(H:aa)(hl:l.length≤1000000)(ho:o.length≤1000000):
  ah Tryz.prog 19 [.d (.list n1 (l.map Atom.enc)),.d (.list n2 (ints o))] H (.ok (.d (.list false ((c8 l o).map Atom.enc)))) H:=by
 refine ah.aj (hint:=(fun _=>false)) Tryz.func19 (by kernel_rfl) rfl [4] (by kernel_rfl) (by decide) (by simp[Tryz.ntmps19]) ?_
 rw[Tryz.ntmps19]
 simp -implicitDefEqProofs only[↓reduceIte,go_sem,Nat.reduceLT,Nat.reduceEqDiff]
 refine bf (fun k s H'=>∃ag,H'=H++[.arr 123 5 ag ((c8 l (o.take k)).map Atom.enc)]∧s 0= .d (.list n1 (l.map Atom.enc))∧s 5= .sl H.length ag 0 (c8 l (o.take k)).length∧
  s 8= .d (.list n2 (ints o))∧s 9=iA o.length∧s 10=iA k) o.length (by omega) (an.fy _ _ 5 123 5 (by decide) (by simp -implicitDefEqProofs only[↓reduceIte,go_sem,Nat.reduceLT,Nat.reduceEqDiff]) _) ?_ ?_ ?_
 ·exact⟨0,by simp[c8],by simp -implicitDefEqProofs only[↓reduceIte,go_sem,reduceCtorEq],by simp[c8],by simp -implicitDefEqProofs only[↓reduceIte,go_sem,Nat.reduceLT,Nat.reduceEqDiff],by simp -implicitDefEqProofs only[↓reduceIte,go_sem,Nat.reduceLT,Nat.reduceEqDiff,az],by simp -implicitDefEqProofs only[↓reduceIte,go_sem,Nat.reduceLT,Nat.reduceEqDiff]⟩
 ·rintro k s H' hk hw ⟨ag,rfl,h0,h5,h8,h9,h10⟩
  have hle:=gA l (o.take k)
  have hk2:=List.length_take_le k o
  have hsn:=ma l o k hk
  have hget:=b5 o k hk
  generalize o[k]=x at hget hsn
  simp -implicitDefEqProofs only[↓reduceIte,go_sem,Nat.reduceLT,Nat.reduceEqDiff,h8,h9,h10,hk,hget]
  by_cases hx0:0≤x
  ·by_cases hxl:x<l.length
   ·obtain⟨y,hy⟩:∃y,l[x.toNat]?=some y:=⟨l[x.toNat]'(by omega),by simp[show x.toNat<l.length by omega]⟩
    simp -implicitDefEqProofs only[↓reduceIte,go_sem,Nat.reduceLT,Nat.reduceEqDiff,reduceCtorEq,h0,h5,hx0,hxl,decide_true]
    simp -implicitDefEqProofs only[↓reduceIte,go_sem,Nat.reduceAdd,Nat.reduceLT,Nat.reduceLeDiff,Nat.reduceEqDiff,h10,hx0,hy,Atom.enc]
    refine⟨by omega,by omega,cO.same ⟨ag+1,?_⟩⟩
    simp -implicitDefEqProofs only[↓reduceIte,go_sem,Nat.reduceLT,Nat.reduceEqDiff,reduceCtorEq,h0,h8,h9,hsn,hx0,hy,hw,Option.toList_some,List.map_append,List.length_append,Atom.enc]
   ·simp -implicitDefEqProofs only[↓reduceIte,go_sem,Nat.reduceLT,Nat.reduceEqDiff,reduceCtorEq,h0,h10,hx0,hxl]
    have hn:l[x.toNat]?=none:=List.getElem?_eq_none (by omega)
    refine cO.same ⟨ag,?_⟩
    simp -implicitDefEqProofs only[↓reduceIte,go_sem,Nat.reduceLT,Nat.reduceEqDiff,reduceCtorEq,h0,h5,h8,h9,hsn,hx0,hn,hw,Option.toList_none,List.append_nil]
  ·simp -implicitDefEqProofs only[↓reduceIte,go_sem,Nat.reduceLT,Nat.reduceEqDiff,reduceCtorEq,h10,hx0]
   refine cO.same ⟨ag,?_⟩
   simp -implicitDefEqProofs only[↓reduceIte,go_sem,Nat.reduceLT,Nat.reduceEqDiff,reduceCtorEq,h0,h5,h8,h9,hsn,hx0,hw,List.append_nil]
 ·rintro s H' ⟨ag,rfl,h0,h5,h8,h9,h10⟩
  simp -implicitDefEqProofs only[↓reduceIte,go_sem,Nat.reduceLT,Nat.reduceEqDiff,h9,h10,h5]
  refine ao.ret ?_
  simp -implicitDefEqProofs only[↓reduceIte,go_sem,Nat.reduceLT]
  simp[cN]
end Go.Proofs.YtggohfhfocgilaaGreat

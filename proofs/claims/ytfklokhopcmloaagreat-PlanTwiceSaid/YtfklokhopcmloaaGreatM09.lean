/- Contracts of functions and lemmas for planTwice_holds, part 9. -/
import Derived.Test.YtfklokhopcmloaaGreatM08
set_option maxHeartbeats 8000000
set_option maxRecDepth 100000
set_option linter.all false
namespace Go.Proofs.YtfklokhopcmloaaGreat
open Go.Proofs.YtfklokhopcmloaaGreatAw Go.RowKit
def cP(i:Nat)(r:Bool)(o:List Int):List Pl:=[⟨i,true,o,1,r⟩,⟨i,true,o,2,r⟩,⟨i,true,o,3,r⟩]
def dC(i:Nat)(n:Nat)(r:Bool):List Pl:=⟨i,false,upto n,0,r⟩::(b4 n).flatMap (cP i r)
def eM(q:Qu)(i:Nat)(p:Pj):List Pl:=if eE p q then(cK q).flatMap (dC i q.pred.length)else[]
def dE(f:Fl)(q:Qu)(k:Nat):List Pl:=(List.range k).flatMap fun i=>match f.projs[i]? with|some p=>eM q i p|none=>[]
def bD(f:Fl)(q:Qu):List Pl:=dE f q f.projs.length
theorem ij(f:Fl)(q:Qu){k:Nat}(h:k<f.projs.length):dE f q (k+1)=dE f q k++eM q k f.projs[k]:=by simp[dE,List.range_succ,List.flatMap_append,h]
theorem vg(f:Fl)(q:Qu){k:Nat}(h:k<f.projs.length):∃t,bD f q=dE f q k++(eM q k f.projs[k]++t):=by
 have:∀n,∃t,dE f q (k+1+n)=dE f q (k+1)++t:=fun n=>by
  induction n with
  |zero=>exact⟨[],by simp⟩
  |succ n ih=>
   obtain⟨t,ht⟩:=ih
   unfold dE at ht⊢
   rw[show k+1+(n+1)=(k+1+n)+1 from rfl,List.range_succ,List.flatMap_append,ht,List.append_assoc]
   exact⟨_,rfl⟩
 obtain⟨t,ht⟩:=this (f.projs.length-(k+1))
 rw[show k+1+(f.projs.length-(k+1))=f.projs.length by omega,ij f q h,List.append_assoc]at ht
 exact⟨t,ht⟩
theorem ng{α β:Type}(g:α→List β)(l:List α)(k:Nat)(h:k<l.length):l.flatMap g=(l.take k).flatMap g++(g l[k]++(l.drop (k+1)).flatMap g):=by
 conv=>lhs;rw[←List.take_append_drop k l,List.drop_eq_getElem_cons h,List.flatMap_append,List.flatMap_cons]
theorem jW{α β:Type}(g:α→List β)(l:List α)(k:Nat)(h:k<l.length):(l.take (k+1)).flatMap g=(l.take k).flatMap g++g l[k]:=by
 rw[List.take_succ_eq_append_getElem h,List.flatMap_append];simp
def Db(L:List Pl):List (List AV):=L.map fun p=>[p.av]
theorem yS{L A B:List Pl}{p:Pl}(h:L=A++p::B):∃hk:A.length<(Db L).length,(Db L)[A.length]=[p.av]:=by
 subst h;exact⟨by simp[Db],by simp[Db]⟩
def cc(l:List Bool):List (List D):=l.map fun b=>[.v (.bool b)]
theorem vc(l:List Bool):(cc l).length=l.length:=by simp[cc]
theorem u0(l:List Bool)(k:Nat)(h:k<l.length):(cc l)[k]?=some [.v (.bool l[k])]:=by simp[cc,h]
theorem C0(f:Fl)(hf:f.Ok)(q:Qu)(hq:q.Ok)(a b c:Nat):lL Tryz.prog 54 [.ptr a 0 0 0,.ptr b 0 0 0,.ptr c 0 0 0] (fun H=>H[a]?=some (fB f)∧H[b]?=some (qB q)∧H[c]?=some (rB q)) (Db (bD f q)):=by
 intro r s0 J Jx m Hs h0 hsb hJ hY
 have hfl:=hf.len
 have hpl:=hq.pred
 have hrl:(cK q).length≤2:=by unfold cK;split<;>simp
 obtain⟨nn,hord⟩:∃nn,∀H,ae Tryz.prog 22 [iA q.pred.length] H (.ok (.d (.list nn ((b4 q.pred.length).map eu)))) H:=ld q.pred.length (by omega)
 have hol:(b4 q.pred.length).length≤24:=(eC q.pred.length).2.2.1
 refine nA.ak (hint:=fun t=>t==3000000) Tryz.func54 (by kernel_rfl) rfl [] (by kernel_rfl) (by decide) (by simp[Tryz.ntmps54]) ?_
 rw[Tryz.ntmps54]
 obtain⟨⟨hCa,_⟩,_,hl0⟩:=hJ 0 Hs h0
 have hxa:=fun T=>tD hCa T
 simp -implicitDefEqProofs only[↓reduceIte,go_sem,ai,Nat.reduceAdd,Nat.reduceLT,hxa,Fl.ds,List.length_map]
 refine aR (fun k s H'=>∃Hk,J (dE f q k).length Hk∧H'=Hk++[.lp r s0]∧s 0= .fm m∧s 1= .ptr a 0 0 0∧s 2= .ptr b 0 0 0∧s 3= .ptr c 0 0 0∧s 13= .d (.list false (f.projs.map Pj.ds))∧s 14=iA f.projs.length∧s 15=iA k) f.projs.length (by omega) (al.refl _ _) ?_ ?_ ?_
 ·refine⟨Hs,h0,rfl,?_⟩
  simp -implicitDefEqProofs only[↓reduceIte,go_sem,Nat.reduceLT,Nat.reduceEqDiff,reduceCtorEq]
 ·rintro k s H' hk hw ⟨Hk,hJk,rfl,t0,t1,t2,t3,t13,t14,t15⟩
  have hx:(f.projs.map Pj.ds)[k]?=some f.projs[k].ds:=by simp[hk]
  obtain⟨⟨hCa,hCb,hCc⟩,hbk,hlk⟩:=hJ _ _ hJk
  have hia:=ah hCa
  have hib:=ah hCb
  have hic:=ah hCc
  have hxb:=fun T=>tD hCb T
  have hxc:=fun T=>(tD hCc T).trans (show some (rB q)=some (.box 44 1 0 1 [.d (.list false (cc (cK q)))])from rfl)
  have e1:=ij f q hk
  obtain⟨tl,e2⟩:=vg f q hk
  have hpo:=hf.all _ (List.getElem_mem hk)
  rw[e1]
  generalize dE f q k=done at*
  generalize f.projs[k]=p at*
  have hcv:=fun H=>tf p hpo.bR q hq H
  unfold eM at e1 e2⊢
  generalize eE p q=cv at*
  simp -implicitDefEqProofs only[↓reduceIte,go_sem,ai,aq,Nat.reduceAdd,Nat.reduceLT,Nat.reduceEqDiff,Nat.reduceBEq,t2,t13,t14,t15,hk,hx,Pj.ds,hxb,Qu.ds]
  refine ag.ok (hcv _) ?_
  cases cv with
  |false=>
   simp -implicitDefEqProofs only[↓reduceIte,go_sem,Nat.reduceAdd,Nat.reduceLT,Nat.reduceEqDiff,Nat.reduceBEq,reduceCtorEq,t15]
   refine⟨_,_,al.iter rfl hbk hlk hl0 hsb,Hk,by simpa using hJk,rfl,?_⟩
   simp -implicitDefEqProofs only[↓reduceIte,go_sem,Nat.reduceLT,Nat.reduceEqDiff,reduceCtorEq,t0,t1,t2,t3,t13,t14,hw,Nat.lt_add_one,←hlk,Nat.lt_succ_of_lt hia,Nat.lt_succ_of_lt hib,Nat.lt_succ_of_lt hic]
  |true=>
  rw[if_pos rfl]at e2⊢
  generalize hρ:cK q=ρ at*
  simp -implicitDefEqProofs only[↓reduceIte,go_sem,ai,Nat.reduceAdd,Nat.reduceLT,Nat.reduceEqDiff,Nat.reduceBEq,t3,hxc,vc]
  refine aR (fun j s H'=>∃Hk,J (done++(ρ.take j).flatMap (dC k q.pred.length)).length Hk∧H'=Hk++[.lp r s0]∧s 0= .fm m∧s 1= .ptr a 0 0 0∧s 2= .ptr b 0 0 0∧s 3= .ptr c 0 0 0∧s 5=iA k∧s 13= .d (.list false (f.projs.map Pj.ds))∧s 14=iA f.projs.length∧s 15=iA k∧s 24= .d (.list false (cc ρ))∧s 25=iA ρ.length∧s 26=iA j) ρ.length (by omega) (al.iter rfl hbk hlk hl0 hsb) ?_ ?_ ?_
  ·refine⟨Hk,by simpa using hJk,rfl,?_⟩
   simp -implicitDefEqProofs only[↓reduceIte,go_sem,Nat.reduceLT,Nat.reduceEqDiff,reduceCtorEq,t0,t1,t2,t3,t13,t14,t15,Nat.lt_add_one,←hlk,Nat.lt_succ_of_lt hia,Nat.lt_succ_of_lt hib,Nat.lt_succ_of_lt hic]
  ·clear hJk hCa hCb hCc hxb hxc hbk hlk hia hib hic
   rintro j s H' hj hw2 ⟨Hk,hJk,rfl,t0,t1,t2,t3,t5,t13,t14,t15,t24,t25,t26⟩
   obtain⟨⟨hCa,hCb,hCc⟩,hbk,hlk⟩:=hJ _ _ hJk
   have hxb:=fun T=>tD hCb T
   have hx:=u0 ρ j hj
   have e3:=ng (dC k q.pred.length) ρ j hj
   rw[e3]at e2
   rw[jW _ _ _ hj]
   generalize List.flatMap (dC k q.pred.length) (List.drop (j+1) ρ)=tl2 at*
   generalize hd1:done++(ρ.take j).flatMap (dC k q.pred.length)=D1 at*
   generalize ρ[j]=g at*
   have e4:bD f q=D1++⟨k,false,upto q.pred.length,0,g⟩::((b4 q.pred.length).flatMap (cP k g)++(tl2++tl)):=by rw[e2,←hd1];simp[dC]
   rw[←List.append_assoc,hd1]
   clear e2 e3 hd1
   obtain⟨hi,hxi⟩:=yS e4
   have hYk:=fun T=>hY _ hi Hk T hJk
   rw[hxi]at hYk
   simp -implicitDefEqProofs only[↓reduceIte,go_sem,ai,Nat.reduceAdd,Nat.reduceLT,Nat.reduceLeDiff,Nat.reduceEqDiff,Nat.reduceBEq,reduceCtorEq,t0,t2,t5,t24,t25,t26,hj,hx,hxb,Qu.ds,List.length_map]
   refine ag.ok (lC q.pred.length (by omega) _) ?_
   simp -implicitDefEqProofs only[↓reduceIte,go_sem,Nat.reduceAdd,Nat.reduceLT,Nat.reduceLeDiff,Nat.reduceEqDiff]
   refine ox.ok (by exact hYk []) ?_
   intro b2 H' hb
   cases b2 with
   |false=>
    rw[if_neg (by simp)]at hb
    obtain⟨Hk',c',hjx,hbk',hlk',rfl⟩:=hb
    simp -implicitDefEqProofs only[↓reduceIte,go_sem,Nat.reduceLT]
    exact⟨_,_,al.iter rfl hbk' hlk' hl0 hsb,rfl,.inr ⟨Hk',c',hjx,hlk',rfl⟩⟩
   |true=>
   rw[if_pos rfl]at hb
   obtain⟨Hk',hJk',rfl⟩:=hb
   clear hYk hJk hCa hCb hCc hxb hbk hlk hxi hi Hk hx
   obtain⟨⟨hCa,hCb,hCc⟩,hbk,hlk⟩:=hJ _ _ hJk'
   have hxb:=fun T=>tD hCb T
   have hia:=ah hCa
   have hib:=ah hCb
   have hic:=ah hCc
   simp -implicitDefEqProofs only[↓reduceIte,go_sem,ai,Nat.reduceAdd,Nat.reduceLT,Nat.reduceLeDiff,Nat.reduceEqDiff,Nat.reduceBEq,t2,hxb,Qu.ds,List.length_map]
   refine ag.ok (hord _) ?_
   generalize hos:b4 q.pred.length=os at*
   simp -implicitDefEqProofs only[↓reduceIte,go_sem,Nat.reduceLT,List.length_map]
   refine aR (fun i s H'=>∃Hk,J (D1++⟨k,false,upto q.pred.length,0,g⟩::(os.take i).flatMap (cP k g)).length Hk∧H'=Hk++[.lp r s0]∧s 0= .fm m∧s 1= .ptr a 0 0 0∧s 2= .ptr b 0 0 0∧s 3= .ptr c 0 0 0∧s 5=iA k∧s 8=bA g∧s 13= .d (.list false (f.projs.map Pj.ds))∧s 14=iA f.projs.length∧s 15=iA k∧s 24= .d (.list false (cc ρ))∧s 25=iA ρ.length∧s 26=iA j∧s 43= .d (.list nn (os.map eu))∧s 44=iA os.length∧s 45=iA i) os.length (by omega) (al.iter rfl hbk hlk hl0 hsb) ?_ ?_ ?_
   ·refine⟨Hk',by simpa using hJk',rfl,?_⟩
    simp -implicitDefEqProofs only[↓reduceIte,go_sem,Nat.reduceLT,Nat.reduceEqDiff,reduceCtorEq,t0,t1,t2,t3,t5,t13,t14,t15,t24,t25,t26,Nat.lt_add_one,←hlk,Nat.lt_succ_of_lt hia,Nat.lt_succ_of_lt hib,Nat.lt_succ_of_lt hic]
   ·clear hJk' hCa hCb hCc hxb hbk hlk hia hib hic
    rintro i s H' hi hw3 ⟨Hk,hJk,rfl,t0,t1,t2,t3,t5,t8,t13,t14,t15,t24,t25,t26,t43,t44,t45⟩
    have hx:(os.map eu)[i]?=some (eu os[i]):=by simp[hi]
    have e3:=ng (cP k g) os i hi
    rw[e3]at e4
    rw[jW _ _ _ hi]
    generalize List.flatMap (cP k g) (List.drop (i+1) os)=tl3 at*
    generalize hd1:(⟨k,false,upto q.pred.length,0,g⟩:Pl)::(os.take i).flatMap (cP k g)=D2 at*
    have hd2:∀x,D1++(⟨k,false,upto q.pred.length,0,g⟩:Pl)::((os.take i).flatMap (cP k g)++x)=(D1++D2)++x:=fun x=>by rw[←hd1];simp
    generalize os[i]=o at*
    have e5:bD f q=(D1++D2)++(cP k g o++(tl3++(tl2++tl))):=by rw[e4,←hd2];simp
    rw[hd2]
    clear e3 e4 hd1 hd2
    generalize D1++D2=D3 at*
    simp -implicitDefEqProofs only[↓reduceIte,go_sem,Nat.reduceAdd,Nat.reduceLT,Nat.reduceEqDiff,Nat.reduceBEq,t43,t44,t45,hi,hx,eu]
    refine bk (fun n s H'=>∃Hk,J (D3++(cP k g o).take n).length Hk∧H'=Hk++[.lp r s0]∧s 0= .fm m∧s 1= .ptr a 0 0 0∧s 2= .ptr b 0 0 0∧s 3= .ptr c 0 0 0∧s 5=iA k∧s 8=bA g∧s 10= .d (.list false (ints o))∧s 11=iA ((n:Int)+1)∧s 13= .d (.list false (f.projs.map Pj.ds))∧s 14=iA f.projs.length∧s 15=iA k∧s 24= .d (.list false (cc ρ))∧s 25=iA ρ.length∧s 26=iA j∧s 43= .d (.list nn (os.map eu))∧s 44=iA os.length∧s 45=iA i) 3 (by omega) (al.refl _ _) ?_ ?_ ?_
    ·refine⟨Hk,by simpa using hJk,rfl,?_⟩
     simp -implicitDefEqProofs only[↓reduceIte,go_sem,Nat.reduceLT,Nat.reduceEqDiff,Int.reduceAdd,reduceCtorEq,t0,t1,t2,t3,t5,t8,t13,t14,t15,t24,t25,t26,t43,t44,t45]
    ·clear hJk
     rintro n s H' hn hw4 ⟨Hk,hJk,rfl,t0,t1,t2,t3,t5,t8,t10,t11,t13,t14,t15,t24,t25,t26,t43,t44,t45⟩
     obtain⟨_,hbk,hlk⟩:=hJ _ _ hJk
     have e6:cP k g o=(cP k g o).take n++⟨k,true,o,(n:Int)+1,g⟩::(cP k g o).drop (n+1):=by
      rcases n with _|_|_|n<;>first|rfl|omega
     have e7:(cP k g o).take (n+1)=(cP k g o).take n++[⟨k,true,o,(n:Int)+1,g⟩]:=by
      rcases n with _|_|_|n<;>first|rfl|omega
     rw[e6]at e5
     rw[e7]
     generalize (cP k g o).drop (n+1)=tl4 at*
     generalize (cP k g o).take n=W at*
     have e8:bD f q=(D3++W)++⟨k,true,o,(n:Int)+1,g⟩::(tl4++(tl3++(tl2++tl))):=by rw[e5];simp
     obtain⟨hi2,hxi⟩:=yS e8
     have hYk:=fun T=>hY _ hi2 Hk T hJk
     rw[hxi]at hYk
     clear e5 e6 e7 e8
     obtain⟨n1,hn1⟩:∃n1:Int,n1=(n:Int)+1:=⟨_,rfl⟩
     rw[←hn1]at hYk t11⊢
     simp -implicitDefEqProofs only[↓reduceIte,go_sem,Nat.reduceAdd,Nat.reduceLT,Nat.reduceLeDiff,Nat.reduceEqDiff,reduceCtorEq,t0,t5,t8,t10,t11,show n1≤3 by omega]
     refine ox.ok (by exact hYk []) ?_
     intro b2 H' hb
     cases b2 with
     |false=>
      rw[if_neg (by simp)]at hb
      obtain⟨Hk',c',hjx,hbk',hlk',rfl⟩:=hb
      simp -implicitDefEqProofs only[↓reduceIte,go_sem,Nat.reduceLT]
      exact⟨_,_,al.iter rfl hbk' hlk' hl0 hsb,rfl,.inr ⟨Hk',c',hjx,hlk',rfl⟩⟩
     |true=>
     rw[if_pos rfl]at hb
     obtain⟨Hk',hJk',rfl⟩:=hb
     obtain⟨⟨hCa,hCb,hCc⟩,hbk',hlk'⟩:=hJ _ _ hJk'
     have hia:=ah hCa
     have hib:=ah hCb
     have hic:=ah hCc
     simp -implicitDefEqProofs only[↓reduceIte,go_sem,Nat.reduceAdd,Nat.reduceLT,Nat.reduceEqDiff,Nat.reduceBEq,t11]
     refine⟨_,_,al.iter rfl hbk' hlk' hl0 hsb,Hk',by simpa[Nat.add_assoc]using hJk',rfl,?_⟩
     simp -implicitDefEqProofs only[↓reduceIte,go_sem,Nat.reduceLT,Nat.reduceEqDiff,reduceCtorEq,t0,t1,t2,t3,t5,t8,t10,t13,t14,t15,t24,t25,t26,t43,t44,t45,Nat.lt_add_one,←hlk',Nat.lt_succ_of_lt hia,Nat.lt_succ_of_lt hib,Nat.lt_succ_of_lt hic,wrap64_in (n1+1) (by omega) (by omega),show(n:Int)+1+1=n1+1 by omega]
    ·rintro s H' ⟨Hk,hJk,rfl,t0,t1,t2,t3,t5,t8,t10,t11,t13,t14,t15,t24,t25,t26,t43,t44,t45⟩
     obtain⟨⟨hCa,hCb,hCc⟩,hbk,hlk⟩:=hJ _ _ hJk
     have hia:=ah hCa
     have hib:=ah hCb
     have hic:=ah hCc
     simp -implicitDefEqProofs only[↓reduceIte,go_sem,Nat.reduceAdd,Nat.reduceLT,Nat.reduceEqDiff,Nat.reduceBEq,Int.reduceLE,Int.reduceAdd,t11,t45]
     refine⟨_,_,al.iter rfl hbk hlk hl0 hsb,Hk,by simpa[cP]using hJk,rfl,?_⟩
     simp -implicitDefEqProofs only[↓reduceIte,go_sem,Nat.reduceLT,Nat.reduceEqDiff,reduceCtorEq,t0,t1,t2,t3,t5,t8,t13,t14,t15,t24,t25,t26,t43,t44,hw3,Nat.lt_add_one,←hlk,Nat.lt_succ_of_lt hia,Nat.lt_succ_of_lt hib,Nat.lt_succ_of_lt hic]
   ·rintro s H' ⟨Hk,hJk,rfl,t0,t1,t2,t3,t5,t8,t13,t14,t15,t24,t25,t26,t43,t44,t45⟩
    rw[List.take_length]at hJk
    obtain⟨⟨hCa,hCb,hCc⟩,hbk,hlk⟩:=hJ _ _ hJk
    have hia:=ah hCa
    have hib:=ah hCb
    have hic:=ah hCc
    simp -implicitDefEqProofs only[↓reduceIte,go_sem,Nat.reduceAdd,Nat.reduceLT,Nat.reduceEqDiff,Nat.reduceBEq,t44,t45,t26]
    refine⟨_,_,al.iter rfl hbk hlk hl0 hsb,Hk,by simpa[dC,hos]using hJk,rfl,?_⟩
    simp -implicitDefEqProofs only[↓reduceIte,go_sem,Nat.reduceLT,Nat.reduceEqDiff,reduceCtorEq,t0,t1,t2,t3,t5,t13,t14,t15,t24,t25,hw2,Nat.lt_add_one,←hlk,Nat.lt_succ_of_lt hia,Nat.lt_succ_of_lt hib,Nat.lt_succ_of_lt hic]
  ·rintro s H' ⟨Hk,hJk,rfl,t0,t1,t2,t3,t5,t13,t14,t15,t24,t25,t26⟩
   rw[List.take_length]at hJk
   obtain⟨⟨hCa,hCb,hCc⟩,hbk,hlk⟩:=hJ _ _ hJk
   have hia:=ah hCa
   have hib:=ah hCb
   have hic:=ah hCc
   simp -implicitDefEqProofs only[↓reduceIte,go_sem,Nat.reduceAdd,Nat.reduceLT,Nat.reduceEqDiff,Nat.reduceBEq,t25,t26,t15]
   refine⟨_,_,al.iter rfl hbk hlk hl0 hsb,Hk,by simpa using hJk,rfl,?_⟩
   simp -implicitDefEqProofs only[↓reduceIte,go_sem,Nat.reduceLT,Nat.reduceEqDiff,reduceCtorEq,t0,t1,t2,t3,t13,t14,hw,Nat.lt_add_one,←hlk,Nat.lt_succ_of_lt hia,Nat.lt_succ_of_lt hib,Nat.lt_succ_of_lt hic]
 ·rintro s H' ⟨Hk,hJk,rfl,t0,t1,t2,t3,t13,t14,t15⟩
  obtain⟨_,hbk,hlk⟩:=hJ _ _ hJk
  simp -implicitDefEqProofs only[↓reduceIte,go_sem,Nat.reduceLT,t14,t15]
  exact⟨_,_,al.iter rfl hbk hlk hl0 hsb,rfl,.inl ⟨Hk,by simpa[Db,bD]using hJk,rfl⟩⟩
theorem l6(gf:FuncId)(caps:List AV)(C:aa→Prop)(l:List Pl)(H:aa)(hs:lL Tryz.prog gf caps C (l.map fun v=>[v.av]))(hC:∀T,C (H++T))(hl:l.length≤1000000000):
  ae Tryz.prog 53 [.d (.v (.slice none 0 0)),.fn gf caps] H (.ok (.d (.list false (l.map Pl.ds)))) H:=by
 refine ae.ak (hint:=(fun t=>t==2000000)) Tryz.func53 (by kernel_rfl) rfl [4] (by kernel_rfl) (by decide) (by simp[Tryz.ntmps53]) ?_
 rw[Tryz.ntmps53]
 simp -implicitDefEqProofs only[↓reduceIte,go_sem,Nat.reduceAdd,Nat.reduceLT,Nat.reduceEqDiff,Nat.reduceBEq]
 refine je (fun _=>false) (fun k Hk=>Hk=H++[.box 39 1 0 1 [.sl (H.length+1) k 0 k],.arr 43 5 k ((l.take k).map Pl.ds)]) (fun _ _=>False) rfl rfl (al.dg _ _ H.length 39 1 0 1 [.d (.v (.slice none 0 0))] 0 _ 43 5 (by decide) (by simp) rfl rfl) (by simp -implicitDefEqProofs only[↓reduceIte,go_sem,Nat.reduceLT]) hs ?_ ?_ ?_ ?_ ?_ (fun _ _ h=>h.elim)
 ·intro v hv
  obtain⟨u,_,rfl⟩:=List.mem_map.1 hv
  exact⟨rfl,fun w hw=>by rw[List.mem_singleton.1 hw];rfl⟩
 ·simp -implicitDefEqProofs only[go_sem,List.take_zero]
 ·rintro k _ rfl
  exact⟨hC _,by simp -implicitDefEqProofs only[go_sem,Nat.reduceAdd]⟩
 ·rintro k hk _ rfl
  rw[List.length_map]at hk
  have e1:(l.take (k+1)).map Pl.ds=(l.take k).map Pl.ds++[l[k].ds]:=by rw[List.take_succ_eq_append_getElem hk,List.map_append];rfl
  have hlen:((l.take k).map Pl.ds).length=k:=by rw[List.length_map,List.length_take];omega
  rw[e1,List.getElem_map]
  generalize (l.take k).map Pl.ds=B at*
  generalize l[k]=v at*
  rw[show v.av= .agg [iA v.proj,bA v.late,.d (.list false (ints v.order)),iA v.rep,bA v.range]from rfl]
  simp -implicitDefEqProofs only[↓reduceIte,go_sem,ai,aq,Nat.reduceAdd,Nat.reduceLT,Nat.reduceLeDiff,Nat.reduceEqDiff,hlen]
  refine⟨by omega,by omega,?_⟩
  refine tu.cut [.box 39 1 0 1 [.sl (H.length+1) (k+1) 0 (k+1)],.arr 43 5 (k+1) (B++[v.ds])] _ rfl rfl (by simp -implicitDefEqProofs only[go_sem,Nat.reduceAdd]) (by simp -implicitDefEqProofs only[go_sem,Nat.reduceAdd,Nat.reduceLT]) ?_
  rfl
 ·rintro _ rfl
  rw[List.length_map,List.take_length]
  simp -implicitDefEqProofs only[↓reduceIte,go_sem,ai,Nat.reduceAdd,Nat.reduceLT,Nat.reduceEqDiff,Nat.reduceBEq]
  refine az.ret ?_
  simp -implicitDefEqProofs only[↓reduceIte,go_sem,Nat.reduceLT,List.take_of_length_le (show(l.map Pl.ds).length≤l.length by simp)]
theorem n8(gf:FuncId)(caps:List AV)(C:aa→Prop)(l:List Pl)(H:aa)(hs:lL Tryz.prog gf caps C (l.map fun v=>[v.av]))(hC:∀T,C (H++T))(hl:l.length≤1000000000):
  ae Tryz.prog 27 [.fn gf caps] H (.ok (.d (.list false (l.map Pl.ds)))) H:=by
 refine ae.ak (hint:=(fun _=>false)) Tryz.func27 (by kernel_rfl) rfl [2] (by kernel_rfl) (by decide) (by simp[Tryz.ntmps27]) ?_
 rw[Tryz.ntmps27]
 simp -implicitDefEqProofs only[↓reduceIte,go_sem,Nat.reduceLT,reduceCtorEq]
 refine ag.ok (l6 gf caps C l _ hs hC hl) ?_
 simp -implicitDefEqProofs only[↓reduceIte,go_sem,Nat.reduceLT]
 refine az.aW ?_
 simp -implicitDefEqProofs only[↓reduceIte,go_sem,Nat.reduceLT]
theorem AR(L:List Pl):Db L=L.map fun v=>[v.av]:=rfl
theorem vh(f:Fl)(hf:f.Ok)(q:Qu)(hq:q.Ok)(hl:(bD f q).length≤1000000000)(H:aa):ae Tryz.prog 11 [f.av,q.av] H (.ok (.d (.list false ((bD f q).map Pl.ds)))) H:=by
 obtain⟨v,ha⟩:=n4 f q hq (H++[fB f,qB q])
 have hs:=C0 f hf q hq (H.length+2) (H.length+3) (H.length+5)
 rw[AR]at hs
 have hc:=n8 _ _ _ (bD f q) (H++[fB f,qB q,fB f,qB q,.arr 4 1 v [],rB q]) hs (fun T=>⟨by simp,by simp,by simp⟩) hl
 generalize bD f q=L at*
 refine ae.ak (hint:=(fun _=>false)) Tryz.func11 (by kernel_rfl) rfl [4] (by kernel_rfl) (by decide) (by simp[Tryz.ntmps11]) ?_
 rw[Tryz.ntmps11]
 simp -implicitDefEqProofs only[↓reduceIte,go_sem,ai,Nat.reduceAdd,Nat.reduceLT,Nat.reduceEqDiff,Fl.av,Fl.ds,Qu.av,Qu.ds]
 refine ag.ok (by exact ha) ?_
 simp -implicitDefEqProofs only[↓reduceIte,go_sem,Nat.reduceAdd,Nat.reduceLT]
 refine ag.ok (by exact hc) ?_
 simp -implicitDefEqProofs only[↓reduceIte,go_sem,Nat.reduceLT]
 refine az.ret ?_
 simp -implicitDefEqProofs only[↓reduceIte,go_sem,Nat.reduceLT]
theorem mO{f:Fl}{q:Qu}{x:Pl}(h:x∈bD f q):∃(i:Nat) (p:Pj),x.proj=i∧f.projs[i]?=some p∧eE p q=true∧x.range∈cK q∧
  ((x.late=false∧x.order=upto q.pred.length∧x.rep=0)∨(x.late=true∧x.order∈b4 q.pred.length∧1≤x.rep∧x.rep≤3)):=by
 unfold bD dE at h
 obtain⟨i,hi,h⟩:=List.mem_flatMap.1 h
 cases e:f.projs[i]? with
 |none=>rw[e]at h;cases h
 |some p=>
  rw[e]at h
  simp only at h
  unfold eM at h
  split at h
  ·rename_i hc
   obtain⟨r,hr,h⟩:=List.mem_flatMap.1 h
   unfold dC at h
   rcases List.mem_cons.1 h with rfl|h
   ·exact⟨i,p,rfl,e,hc,hr,.inl ⟨rfl,rfl,rfl⟩⟩
   ·obtain⟨o,ho,h⟩:=List.mem_flatMap.1 h
    unfold cP at h
    simp only[List.mem_cons,List.not_mem_nil,or_false]at h
    rcases h with rfl|rfl|rfl<;>exact⟨i,p,rfl,e,hc,hr,.inr ⟨rfl,ho,by simp,by simp⟩⟩
  ·cases h
theorem qF{f:Fl}{q:Qu}{x:Pl}(h:x∈bD f q):x.order.length=q.pred.length:=by
 obtain⟨i,p,_,_,_,_,h|h⟩:=mO h
 ·rw[h.2.1,eL]
 ·exact(eC _).2.2.2 _ h.2.1
def vv(f:Fl)(q:Qu)(k:Nat):Nat:=((f.projs.take k).filter fun p=>eE p q).length
def y1(q:Qu):Nat:=(cK q).length* (1+3* (b4 q.pred.length).length)
theorem oE(i:Nat)(r:Bool):∀os:List (List Int),(os.flatMap (cP i r)).length=3* os.length
 |[]=>rfl
 |o::os=>by rw[List.flatMap_cons,List.length_append,oE i r os,List.length_cons];simp[cP];omega
theorem vE(q:Qu)(i:Nat)(p:Pj):(eM q i p).length=if eE p q then y1 q else 0:=by
 have:∀rs:List Bool,(rs.flatMap (dC i q.pred.length)).length=rs.length* (1+3* (b4 q.pred.length).length):=by
  intro rs
  induction rs with
  |nil=>simp
  |cons r rs ih=>rw[List.flatMap_cons,List.length_append,ih,List.length_cons,Nat.succ_mul rs.length,show(dC i q.pred.length r).length=1+3* (b4 q.pred.length).length from by unfold dC;rw[List.length_cons,oE];omega];omega
 unfold eM
 split
 ·exact this _
 ·rfl
theorem yD(f:Fl)(q:Qu){k:Nat}(h:k<f.projs.length):vv f q (k+1)=vv f q k+if eE f.projs[k] q then 1 else 0:=by
 unfold vv
 rw[List.take_succ_eq_append_getElem h,List.filter_append,List.length_append]
 cases hc:eE f.projs[k] q<;>simp[hc]
theorem Bx(f:Fl)(q:Qu)(k:Nat):vv f q k≤k:=Nat.le_trans (List.length_filter_le _ _) (List.length_take_le _ _)
theorem nM(f:Fl)(q:Qu):∀k,k≤f.projs.length→(dE f q k).length=vv f q k* y1 q
 |0,_=>by simp[dE,vv]
 |k+1,h=>by
  rw[ij f q (by omega),List.length_append,nM f q k (by omega),vE,yD f q (by omega),Nat.add_mul]
  split<;>simp
theorem sj(q:Qu):(cK q).length=if 0<q.bU.length then 2 else 1:=by unfold cK;split<;>rfl
theorem AQ(q:Qu):y1 q≤146:=by
 have h:=(eC q.pred.length).2.2.1
 unfold y1
 rw[sj]
 have:(if 0<q.bU.length then 2 else 1)≤2:=by split<;>omega
 exact Nat.le_trans (Nat.mul_le_mul this (show 1+3* (b4 q.pred.length).length≤73 by omega)) (by omega)
theorem ur(f:Fl)(q:Qu):(bD f q).length=vv f q f.projs.length* y1 q:=nM f q _ (Nat.le_refl _)
theorem yn(f:Fl)(q:Qu)(h:f.projs.length≤3):(bD f q).length≤438:=by
 rw[ur]
 exact Nat.le_trans (Nat.mul_le_mul (Nat.le_trans (Bx _ _ _) h) (AQ q)) (by omega)
theorem fU{i:Nat}{r:Bool}{o:List Int}{x:Pl}(h:x∈cP i r o):x.proj=i∧x.range=r∧x.order=o∧x.late=true:=by
 unfold cP at h
 simp only[List.mem_cons,List.not_mem_nil,or_false]at h
 rcases h with rfl|rfl|rfl<;>exact⟨rfl,rfl,rfl,rfl⟩
theorem jA{i n:Nat}{r:Bool}{x:Pl}(h:x∈dC i n r):x.proj=i∧x.range=r:=by
 unfold dC at h
 rcases List.mem_cons.1 h with rfl|h
 ·exact⟨rfl,rfl⟩
 ·obtain⟨o,_,h⟩:=List.mem_flatMap.1 h
  exact⟨(fU h).1,(fU h).2.1⟩
theorem nz{q:Qu}{i:Nat}{p:Pj}{x:Pl}(h:x∈eM q i p):x.proj=i:=by
 unfold eM at h
 split at h
 ·obtain⟨r,_,h⟩:=List.mem_flatMap.1 h
  exact(jA h).1
 ·cases h
theorem rp(f:Fl)(q:Qu)(R:Pl→Pl→Prop)(h1:∀i p,(eM q i p).Pairwise R)(h2:∀x y:Pl,x.proj<y.proj→R x y):(bD f q).Pairwise R:=by
 unfold bD dE
 rw[List.pairwise_flatMap]
 refine⟨fun i _=>?_,?_⟩
 ·split
  ·exact h1 _ _
  ·exact .nil
 ·refine List.Pairwise.imp (fun{a b} hab x hx y hy=>?_) (List.pairwise_lt_range (n:=f.projs.length))
  refine h2 x y ?_
  have e1:x.proj=a:=by split at hx;exact nz hx;cases hx
  have e2:y.proj=b:=by split at hy;exact nz hy;cases hy
  omega
theorem py(f:Fl)(q:Qu):(bD f q).Pairwise fun x y=>x≠y:=by
 refine rp f q _ (fun i p=>?_) fun x y h e=>by rw[e]at h;omega
 unfold eM
 split
 ·rw[List.pairwise_flatMap]
  refine⟨fun r _=>?_,?_⟩
  ·unfold dC
   rw[List.pairwise_cons]
   refine⟨fun x hx e=>?_,?_⟩
   ·obtain⟨o,_,hx⟩:=List.mem_flatMap.1 hx
    have:=(fU hx).2.2.2
    rw[←e]at this
    cases this
   ·rw[List.pairwise_flatMap]
    refine⟨fun o _=>by simp[cP],?_⟩
    refine List.Pairwise.imp (fun{a b} hab x hx y hy e=>?_) (List.nodup_iff_pairwise_ne.1 (eC q.pred.length).1)
    exact hab (by rw[←(fU hx).2.2.1,←(fU hy).2.2.1,e])
  ·have:(cK q).Pairwise (·≠·):=by unfold cK;split<;>decide
   exact this.imp fun{a b} hab x hx y hy e=>hab (by rw[←(jA hx).2,←(jA hy).2,e])
 ·exact .nil
def Qu.small(n:Nat)(q:Qu):Prop:=q.pred.length≤n∧q.bU.length≤n∧q.bR.length≤n∧q.c7.length≤n
instance (n:Nat) (q:Qu):Decidable (q.small n):=by unfold Qu.small;infer_instance
theorem Qu.small.ok{n:Nat}{q:Qu}(h:q.small n)(hn:n≤100):q.Ok:=by obtain⟨h1,h2,h3,h4⟩:=h;exact⟨by omega,by omega,by omega,by omega⟩
theorem qw(q:Qu)(H:aa):ae Tryz.prog 10 [q.av] H (.ok (bA (decide (q.small 6)))) H:=by
 have c1:∀n:Nat,((n:Int)≤6)=(n≤6):=fun n=>by simp;omega
 unfold Qu.small
 refine ae.ak (hint:=(fun _=>false)) Tryz.func10 (by kernel_rfl) rfl [2] (by kernel_rfl) (by decide) (by simp[Tryz.ntmps10]) ?_
 rw[Tryz.ntmps10]
 simp -implicitDefEqProofs only[↓reduceIte,go_sem,ai,Nat.reduceAdd,Nat.reduceLT,Nat.reduceLeDiff,Nat.reduceEqDiff,Qu.av,Qu.ds]
 by_cases h1:q.pred.length≤6
 case' pos=>
  by_cases h2:q.bU.length≤6
  case' pos=>
   by_cases h3:q.bR.length≤6
   case' pos=>by_cases h4:q.c7.length≤6
 all_goals
  simp -implicitDefEqProofs only[↓reduceIte,go_sem,ai,Nat.reduceAdd,Nat.reduceLT,Nat.reduceLeDiff,Nat.reduceEqDiff,reduceCtorEq,List.length_map,aw, *]
  refine az.ret ?_
  simp -implicitDefEqProofs only[↓reduceIte,go_sem,Nat.reduceLT]<;>simp[*]
theorem rl(a b:Pl)(ha:a.order.length≤1000000000)(H:aa):ae Tryz.prog 12 [a.av,b.av] H (.ok (bA (decide (a=b)))) H:=by
 obtain⟨p1,l1,o1,r1,g1⟩:=a
 obtain⟨p2,l2,o2,r2,g2⟩:=b
 simp only at ha
 rw[show decide (Pl.mk p1 l1 o1 r1 g1=Pl.mk p2 l2 o2 r2 g2)=decide (p1=p2∧l1=l2∧o1=o2∧r1=r2∧g1=g2)from by simp]
 have hol:o1=o2→(o1.length:Int)=o2.length:=fun h=>by rw[h]
 have qb:∀a b:Bool,(a !=b)= !decide (a=b):=by decide
 refine ae.ak (hint:=(fun _=>false)) Tryz.func12 (by kernel_rfl) rfl [4] (by kernel_rfl) (by decide) (by simp[Tryz.ntmps12]) ?_
 rw[Tryz.ntmps12]
 simp -implicitDefEqProofs only[↓reduceIte,go_sem,ai,Nat.reduceAdd,Nat.reduceLT,Nat.reduceLeDiff,Nat.reduceEqDiff,Pl.av,Pl.ds]
 by_cases h1:p1=p2
 case' pos=>
  by_cases h2:l1=l2
  case' pos=>
   by_cases h3:r1=r2
   case' pos=>
    by_cases h4:g1=g2
    case' pos=>by_cases h5:(o1.length:Int)=o2.length
 case pos=>
  subst h1 h2 h3 h4
  simp -implicitDefEqProofs only[↓reduceIte,go_sem,ai,Nat.reduceAdd,Nat.reduceLT,Nat.reduceLeDiff,Nat.reduceEqDiff,reduceCtorEq,h5,qb,aw]
  have h5:o1.length=o2.length:=by omega
  refine bk (fun k s H'=>o1.take k=o2.take k∧H'=H++[.box 43 5 0 1 [iA p1,bA l1,.d (.list false (ints o1)),iA r1,bA g1],.box 43 5 0 1 [iA p1,bA l1,.d (.list false (ints o2)),iA r1,bA g1]]∧s 2= .ptr H.length 0 0 0∧s 3= .ptr (H.length+1) 0 0 0∧s 5=iA k) o1.length (by omega) (al.refl _ _) ?_ ?_ ?_
  ·refine⟨rfl,rfl,?_⟩
   simp -implicitDefEqProofs only[↓reduceIte,go_sem,Nat.reduceLT,Nat.reduceEqDiff]
  ·rintro k s H' hk hw ⟨he,rfl,t2,t3,t5⟩
   have hx:=cx o1 k hk
   have hy:=cx o2 k (by omega)
   have e1:=List.take_succ_eq_append_getElem hk
   have e2:=List.take_succ_eq_append_getElem (show k<o2.length by omega)
   have hne:¬o1[k]=o2[k]→¬o1=o2:=fun h e=>by subst e;exact h rfl
   generalize o1[k]=x at*
   generalize o2[k]=y at*
   simp -implicitDefEqProofs only[↓reduceIte,go_sem,ai,Nat.reduceAdd,Nat.reduceLT,Nat.reduceLeDiff,Nat.reduceEqDiff,t2,t5,aw,hk]
   refine ba K.mixed (by kernel_rfl) ?_
   by_cases hxy:x=y
   ·simp -implicitDefEqProofs only[↓reduceIte,go_sem,ai,Nat.reduceAdd,Nat.reduceLT,Nat.reduceLeDiff,Nat.reduceEqDiff,t2,t3,t5,hx,hy,hxy]
    refine db.same ⟨by rw[e1,e2,he,hxy],rfl,?_⟩
    simp -implicitDefEqProofs only[↓reduceIte,go_sem,Nat.reduceLT,Nat.reduceEqDiff,t2,t3,hw]
   ·simp -implicitDefEqProofs only[↓reduceIte,go_sem,ai,Nat.reduceAdd,Nat.reduceLT,Nat.reduceLeDiff,Nat.reduceEqDiff,t2,t3,t5,hx,hy,hxy]
    refine az.ret ?_
    simp -implicitDefEqProofs only[↓reduceIte,go_sem,Nat.reduceLT]
    simp[hne hxy]
  ·rintro s H' ⟨he,rfl,t2,t3,t5⟩
   rw[List.take_length,h5,List.take_length]at he
   simp -implicitDefEqProofs only[↓reduceIte,go_sem,ai,Nat.reduceAdd,Nat.reduceLT,Nat.reduceLeDiff,Nat.reduceEqDiff,t2,t5,aw]
   refine az.ret ?_
   simp -implicitDefEqProofs only[↓reduceIte,go_sem,Nat.reduceLT]
   simp[he]
 all_goals
  simp -implicitDefEqProofs only[↓reduceIte,go_sem,ai,Nat.reduceAdd,Nat.reduceLT,Nat.reduceLeDiff,Nat.reduceEqDiff,reduceCtorEq,aw, *]
  refine az.ret ?_
  simp -implicitDefEqProofs only[↓reduceIte,go_sem,Nat.reduceLT]<;>simp[*]
 exact fun h=>absurd (hol h) h5
theorem qS:∀n,n≤4→∀o∈cH n,o.Nodup∧∀x∈o,0≤x∧x<(n:Int):=by decide
theorem kz(n:Nat):(upto n).Nodup∧∀x∈upto n,0≤x∧x<(n:Int):=⟨vm n,fun x hx=>by
 unfold upto at hx
 obtain⟨i,hi,rfl⟩:=List.mem_map.1 hx
 have:=List.mem_range.1 hi
 omega⟩
theorem kb{n:Nat}{o:List Int}(h:o∈b4 n):o.Nodup∧∀x∈o,0≤x∧x<(n:Int):=by
 unfold b4 at h
 split at h
 ·rw[List.mem_singleton.1 h];exact kz n
 ·exact qS n (by omega) o h
def gT(n:Nat)(o:List Int)(j:Nat):List Bool:=(List.range n).map fun(i:Nat)=>decide ((i:Int)∈o.take j)
theorem iY(n:Nat)(o:List Int)(j:Nat):(gT n o j).length=n:=by simp[gT]
theorem kI{n:Nat}{o:List Int}{j m:Nat}(hm:m<n):(cc (gT n o j))[m]?=some [.v (.bool (decide ((m:Int)∈o.take j)))]:=by simp[cc,gT,hm]
theorem u9{n:Nat}{o:List Int}{j m:Nat}(hj:j<o.length)(he:o[j]=(m:Int)):(cc (gT n o j)).set m [.v (.bool true)]=cc (gT n o (j+1)):=by
 apply List.ext_getElem?
 intro i
 rw[List.getElem?_set]
 have e1:∀x:Int,x∈o.take (j+1)↔x∈o.take j∨x=m:=fun x=>by rw[List.take_succ_eq_append_getElem hj,List.mem_append,List.mem_singleton,he]
 by_cases hi:i<n
 ·rw[kI hi,kI hi]
  by_cases him:m=i
  ·subst him
   rw[if_pos rfl,if_pos (by simp[cc,iY];exact hi)]
   simp[e1]
  ·rw[if_neg him]
   have:¬(i:Int)=m:=by omega
   simp[e1,this]
 ·have h1:∀j,(cc (gT n o j))[i]?=none:=fun j=>List.getElem?_eq_none (by simp[cc,iY];omega)
  rw[h1,h1]
  split
  ·split
   ·rename_i h2 h3;subst h2;simp[cc,iY]at h3;omega
   ·rfl
  ·rfl
theorem uT(n:Nat)(o:List Int):cc (gT n o 0)=List.replicate n [.v (.bool false)]:=by
 unfold cc gT
 rw[List.map_map,List.eq_replicate_iff]
 refine⟨by simp,fun b hb=>?_⟩
 obtain⟨i,_,rfl⟩:=List.mem_map.1 hb
 simp
theorem BK(L:List Pl):(∀c∈L.map Pl.ds,c.length=5)=True:=eq_true fun c hc=>by obtain⟨x,_,rfl⟩:=List.mem_map.1 hc;rfl
theorem uE{o:List Int}(h:o.Nodup){j:Nat}(hj:j<o.length):¬o[j]∈o.take j:=fun hm=>by
 obtain⟨i,hi,e⟩:=List.mem_iff_getElem.1 hm
 rw[List.length_take]at hi
 rw[List.getElem_take]at e
 have:=(List.getElem_inj h).1 e
 omega
theorem wb{L:List Pl}{k:Nat}(h:k<L.length):(L.map Pl.ds)[k]?=some L[k].ds:=by simp[h]
structure B8 (n:Nat) (x:Pl):Prop where
 len:x.order.length=n
 nodup:x.order.Nodup
 mem:∀y∈x.order,0≤y∧y<(n:Int)
 late:x.late=decide (0<x.rep)
 Hr:x.late=false→x.order=upto n
theorem rA{f:Fl}{q:Qu}{x:Pl}(h:x∈bD f q):B8 q.pred.length x:=by
 have hl:=qF h
 obtain⟨_,_,_,_,_,_,h|h⟩:=mO h
 ·obtain⟨h1,h2,h3⟩:=h
  rw[h2]at hl
  exact⟨by rw[h2,hl],by rw[h2];exact(kz _).1,by rw[h2];exact(kz _).2,by rw[h1,h3];rfl,fun _=>h2⟩
 ·obtain⟨h1,h2,h3,h4⟩:=h
  exact⟨hl,(kb h2).1,(kb h2).2,by rw[h1,decide_eq_true (by omega)],fun e=>by rw[h1]at e;cases e⟩
theorem nK(t:hZ)(ht:t.Ok)(q:Qu)(H:aa):ae Tryz.prog 3 [t.av,q.av] H (.ok (bA true)) H:=by
 have hof:=fun H=>wJ t ht H
 have hfk:=BR (t:=t)
 have hfm:=oD (t:=t)
 have hf3:=iC t 2
 generalize pX t=fb at*
 obtain⟨f,b⟩:=fb
 simp only at hof hfk hfm
 have hsm:=fun H=>qw q H
 refine ae.ak (hint:=(fun _=>false)) Tryz.func3 (by kernel_rfl) rfl [4] (by kernel_rfl) (by decide) (by simp[Tryz.ntmps3]) ?_
 rw[Tryz.ntmps3]
 simp -implicitDefEqProofs only[↓reduceIte,go_sem,Nat.reduceAdd,Nat.reduceLT,Nat.reduceEqDiff,hZ.av,hZ.ds,Qu.av,Qu.ds]
 refine ag.ok (qP _) ?_
 simp -implicitDefEqProofs only[↓reduceIte,go_sem,ai,Nat.reduceAdd,Nat.reduceLT,Nat.reduceEqDiff]
 refine ag.ok (hof _) ?_
 cases b with
 |false=>
  simp -implicitDefEqProofs only[↓reduceIte,go_sem,aq,Nat.reduceAdd,Nat.reduceLT,Nat.reduceEqDiff,Fl.av,Fl.ds]
  refine az.ret ?_
  simp -implicitDefEqProofs only[↓reduceIte,go_sem,Nat.reduceLT]
 |true=>
 simp -implicitDefEqProofs only[↓reduceIte,go_sem,ai,aq,Nat.reduceAdd,Nat.reduceLT,Nat.reduceEqDiff,Fl.av,Fl.ds]
 refine ag.ok (hsm _) ?_
 by_cases hs:q.small 6
 case neg=>
  simp -implicitDefEqProofs only[↓reduceIte,go_sem,Nat.reduceLT,Nat.reduceEqDiff,reduceCtorEq,hs]
  refine az.ret ?_
  simp -implicitDefEqProofs only[↓reduceIte,go_sem,Nat.reduceLT]
 have hq:=hs.ok (by omega)
 have hfl:f.projs.length≤3:=by rw[(hfm rfl).1];exact hf3
 have hle:=yn f q hfl
 have hpl:=fun H=>vh f (hfk rfl) q hq (by omega) H
 have hgood:∀x∈(bD f q).take 400,B8 q.pred.length x:=fun x hx=>rA (List.mem_of_mem_take hx)
 have hnd:((bD f q).take 400).Pairwise fun x y=>x≠y:=(py f q).sublist (List.take_sublist _ _)
 have htk:(bD f q).length≤400→(bD f q).take 400=bD f q:=fun h=>List.take_of_length_le h
 have htl:((bD f q).take 400).length≤400:=by simp;omega
 have hmt:((bD f q).map Pl.ds).take 400=((bD f q).take 400).map Pl.ds:=List.map_take.symm
 generalize bD f q=L0 at*
 generalize hL:L0.take 400=L at*
 have hn6:=hs.1
 obtain⟨tb,htb⟩:∃tb,tb=aA.box 26 6 0 1 (t.ds.map .d):=⟨_,rfl⟩
 have hb:∀m,tb.below m=true:=by intro m;subst htb;rfl
 simp -implicitDefEqProofs only[↓reduceIte,go_sem,ai,Nat.reduceAdd,Nat.reduceLT,Nat.reduceEqDiff,reduceCtorEq,hs]
 refine ag.ok (hpl _) ?_
 simp -implicitDefEqProofs only[↓reduceIte,go_sem,Nat.reduceLT,List.length_map]
 refine kP (fun s H'=>H'=H++[tb,qB q,fB f]∧s 3= .ptr (H.length+1) 0 0 0∧s 5=bA true∧s 8= .d (.list false (L.map Pl.ds))) rfl ?_ ?_
 ·by_cases h4:(400:Int)<L0.length
  ·simp -implicitDefEqProofs only[↓reduceIte,go_sem,Nat.reduceLT,Nat.reduceEqDiff,Int.reduceLE,Int.reduceToNat,h4,List.length_map,hmt,htb,BK]
   exact⟨by omega,rfl⟩
  ·have e:=htk (by omega)
   simp -implicitDefEqProofs only[↓reduceIte,go_sem,Nat.reduceLT,Nat.reduceEqDiff,h4,htb,e]
   rfl
 rintro s H' ⟨rfl,t3,t5,t8⟩
 simp -implicitDefEqProofs only[go_sem]
 refine bk (fun k s H'=>H'=H++[tb,qB q,fB f]∧s 3= .ptr (H.length+1) 0 0 0∧s 5=bA true∧s 8= .d (.list false (L.map Pl.ds))∧s 9=iA k) L.length (by omega) (al.refl _ _) ?_ ?_ ?_
 ·refine⟨rfl,?_⟩
  simp -implicitDefEqProofs only[↓reduceIte,go_sem,Nat.reduceLT,Nat.reduceEqDiff,t3,t5,t8]
 ·rintro k s H' hk hw ⟨rfl,t3,t5,t8,t9⟩
  have hx:=wb hk
  have hg:=hgood L[k] (List.getElem_mem hk)
  have hne:∀j (hj:j<k),¬L[k]=L[j]'(by omega):=fun j hj e=>List.pairwise_iff_getElem.1 hnd j k (by omega) hk hj e.symm
  generalize L[k]=x at*
  obtain⟨xj,xl,o,xr,xg⟩:=x
  obtain⟨g1,g2,g3,g4,g5⟩:=hg
  simp only at g1 g2 g3 g4 g5
  simp -implicitDefEqProofs only[↓reduceIte,go_sem,Nat.reduceLT,Nat.reduceEqDiff,t8,t9,List.length_map,hk]
  refine bk (fun j s H'=>H'=H++[tb,qB q,fB f]∧s 3= .ptr (H.length+1) 0 0 0∧s 5=bA true∧s 8= .d (.list false (L.map Pl.ds))∧s 9=iA k∧s 10=iA j) k (by omega) (al.refl _ _) ?_ ?_ ?_
  ·refine⟨rfl,?_⟩
   simp -implicitDefEqProofs only[↓reduceIte,go_sem,Nat.reduceLT,Nat.reduceEqDiff,t3,t5,t8,t9]
  ·rintro j s H' hj hw2 ⟨rfl,t3,t5,t8,t9,t10⟩
   have hy:=wb (show j<L.length by omega)
   have hn:=hne j hj
   have hsm2:=fun H=>rl ⟨xj,xl,o,xr,xg⟩ (L[j]'(by omega)) (by simp only;omega) H
   rw[decide_eq_false hn]at hsm2
   generalize L[j]=y at*
   simp -implicitDefEqProofs only[↓reduceIte,go_sem,Nat.reduceLT,Nat.reduceEqDiff,t9,t10,hj]
   refine ba K.mixed (by kernel_rfl) ?_
   simp -implicitDefEqProofs only[↓reduceIte,go_sem,Nat.reduceAdd,Nat.reduceLT,Nat.reduceEqDiff,t8,t9,t10,hx,hy,Pl.ds]
   refine ag.ok (hsm2 _) ?_
   simp -implicitDefEqProofs only[↓reduceIte,go_sem,Nat.reduceLT,Nat.reduceEqDiff,t10]
   refine db.same ⟨rfl,?_⟩
   simp -implicitDefEqProofs only[↓reduceIte,go_sem,Nat.reduceLT,Nat.reduceEqDiff,t3,t5,t8,t9,hw2]
  rintro s H' ⟨rfl,t3,t5,t8,t9,t10⟩
  clear hne
  simp -implicitDefEqProofs only[↓reduceIte,go_sem,ai,Nat.reduceAdd,Nat.reduceLT,Nat.reduceLeDiff,Nat.reduceEqDiff,t3,t9,t10,Qu.ds,List.length_map]
  refine⟨⟨by omega,by omega⟩,?_⟩
  rw[←uT q.pred.length o]
  refine bk (fun j s H'=>H'=H++[tb,qB q,fB f,.arr 4 1 0 (cc (gT q.pred.length o j))]∧s 3= .ptr (H.length+1) 0 0 0∧s 5=bA true∧s 8= .d (.list false (L.map Pl.ds))∧s 9=iA k∧s 11= .sl (H.length+3) 0 0 q.pred.length∧s 12=iA j) o.length (by omega) (al.refl _ _) ?_ ?_ ?_
  ·refine⟨rfl,?_⟩
   simp -implicitDefEqProofs only[↓reduceIte,go_sem,Nat.reduceLT,Nat.reduceEqDiff,t3,t5,t8,t9]
  ·rintro j s H' hj hw2 ⟨rfl,t3,t5,t8,t9,t11,t12⟩
   have hy:=cx o j hj
   have hns:=uE g2 hj
   have hup:xl=false→o[j]=(j:Int):=fun h=>by
    have e:=g5 h
    subst e
    simp[upto]
   obtain⟨m,hm⟩:=Int.eq_ofNat_of_zero_le (g3 _ (List.getElem_mem hj)).1
   have hmn:m<q.pred.length:=by have:=(g3 _ (List.getElem_mem hj)).2;omega
   have hsg:=kI (o:=o) (j:=j) hmn
   have hss:=u9 (n:=q.pred.length) hj hm
   have hsl:(cc (gT q.pred.length o j)).length=q.pred.length:=by simp[cc,iY]
   rw[hm]at hns hup hy
   rw[decide_eq_false hns]at hsg
   rw[←hss]
   clear hss hm
   generalize cc (gT q.pred.length o j)=S at*
   cases xl
   case' false=>
    obtain rfl:m=j:=by have:=hup rfl;omega
    simp -implicitDefEqProofs only[↓reduceIte,go_sem,ai,aq,Nat.reduceAdd,Nat.reduceLT,Nat.reduceLeDiff,Nat.reduceEqDiff,reduceCtorEq,t8,t9,t11,t12,hx,Pl.ds,aw,hj,hy,iD,show ¬(m:Int)<0 by omega,show ¬(q.pred.length:Int)≤m by omega,hmn,hsg]
   case' true=>
    simp -implicitDefEqProofs only[↓reduceIte,go_sem,ai,aq,Nat.reduceAdd,Nat.reduceLT,Nat.reduceLeDiff,Nat.reduceEqDiff,reduceCtorEq,t8,t9,t11,t12,hx,Pl.ds,aw,hj,hy,iD,show ¬(m:Int)<0 by omega,show ¬(q.pred.length:Int)≤m by omega,hmn,hsg]
   all_goals
    refine db.same ⟨rfl,?_⟩
    simp -implicitDefEqProofs only[↓reduceIte,go_sem,Nat.reduceLT,Nat.reduceEqDiff,t3,t5,t8,t9,t11,hw2]
  ·rintro s H' ⟨rfl,t3,t5,t8,t9,t11,t12⟩
   simp -implicitDefEqProofs only[↓reduceIte,go_sem,Nat.reduceAdd,Nat.reduceLT,Nat.reduceLeDiff,Nat.reduceEqDiff,t8,t9,t12,hx,Pl.ds,aw]
   refine ba K.mixed (by kernel_rfl) ?_
   have hrep:∀b:Bool,xl=b→((0:Int)<xr)=(b=true):=fun b h=>by rw[h]at g4;rw[g4];simp
   have hgl:(o.length:Int)=q.pred.length:=by omega
   cases xl
   case' false=>simp -implicitDefEqProofs only[↓reduceIte,go_sem,ai,Nat.reduceAdd,Nat.reduceLT,Nat.reduceLeDiff,Nat.reduceEqDiff,t3,t8,t9,hx,Pl.ds,Qu.ds,iD,List.length_map,aw,hgl,hrep false rfl,Bool.false_eq_true]
   case' true=>simp -implicitDefEqProofs only[↓reduceIte,go_sem,ai,Nat.reduceAdd,Nat.reduceLT,Nat.reduceLeDiff,Nat.reduceEqDiff,reduceCtorEq,t3,t8,t9,hx,Pl.ds,Qu.ds,iD,List.length_map,aw,hgl,hrep true rfl]
   all_goals
    refine db.cut [tb,qB q,fB f] _ 3 rfl rfl (by rw[List.all_cons,hb];rfl) ⟨rfl,?_⟩
    simp -implicitDefEqProofs only[↓reduceIte,go_sem,Nat.reduceLT,Nat.reduceEqDiff,t3,t5,t8,hw]
 ·rintro s H' ⟨rfl,t3,t5,t8,t9⟩
  simp -implicitDefEqProofs only[↓reduceIte,go_sem,Nat.reduceLT,Nat.reduceEqDiff,t5,t8,t9,List.length_map]
  refine az.ret ?_
  simp -implicitDefEqProofs only[↓reduceIte,go_sem,Nat.reduceLT]
theorem planTwice_does(x0:AV)(h0:j4 Tryz.prog 26 x0)(x1:AV)(h1:j4 Tryz.prog 31 x1):ae Tryz.prog 3 [x0,x1] [] (.ok (.d (.v (.bool true)))) []:=by
 obtain⟨t,rfl,ht⟩:=BS h0
 obtain⟨q,rfl⟩:=DR h1
 exact nK t ht q []
end Go.Proofs.YtfklokhopcmloaaGreat

/- Contracts of functions and lemmas for planProjs_holds, part 9. -/
import Derived.Test.YtfklokhopcmloaaGreatM08
set_option maxHeartbeats 8000000
set_option maxRecDepth 100000
set_option linter.all false
namespace Go.Proofs.YtfklokhopcmloaaGreat
open Go.Proofs.YtfklokhopcmloaaGreatAw Go.RowKit
def cZ(i:Nat)(r:Bool)(o:List Int):List Pl:=[⟨i,true,o,1,r⟩,⟨i,true,o,2,r⟩,⟨i,true,o,3,r⟩]
def dR(i:Nat)(n:Nat)(r:Bool):List Pl:=⟨i,false,upto n,0,r⟩::(bR n).flatMap (cZ i r)
def fD(q:Qu)(i:Nat)(p:Pj):List Pl:=if dT p q then(cV q).flatMap (dR i q.pred.length)else[]
def dC(f:Fl)(q:Qu)(k:Nat):List Pl:=(List.range k).flatMap fun i=>match f.projs[i]? with|some p=>fD q i p|none=>[]
def cr(f:Fl)(q:Qu):List Pl:=dC f q f.projs.length
theorem iO(f:Fl)(q:Qu){k:Nat}(h:k<f.projs.length):dC f q (k+1)=dC f q k++fD q k f.projs[k]:=by simp[dC,List.range_succ,List.flatMap_append,h]
theorem tC(f:Fl)(q:Qu){k:Nat}(h:k<f.projs.length):∃t,cr f q=dC f q k++(fD q k f.projs[k]++t):=by
 have:∀n,∃t,dC f q (k+1+n)=dC f q (k+1)++t:=fun n=>by
  induction n with
  |zero=>exact⟨[],by simp⟩
  |succ n ih=>
   obtain⟨t,ht⟩:=ih
   unfold dC at ht⊢
   rw[show k+1+(n+1)=(k+1+n)+1 from rfl,List.range_succ,List.flatMap_append,ht,List.append_assoc]
   exact⟨_,rfl⟩
 obtain⟨t,ht⟩:=this (f.projs.length-(k+1))
 rw[show k+1+(f.projs.length-(k+1))=f.projs.length by omega,iO f q h,List.append_assoc]at ht
 exact⟨t,ht⟩
theorem nq{α β:Type}(g:α→List β)(l:List α)(k:Nat)(h:k<l.length):l.flatMap g=(l.take k).flatMap g++(g l[k]++(l.drop (k+1)).flatMap g):=by
 conv=>lhs;rw[←List.take_append_drop k l,List.drop_eq_getElem_cons h,List.flatMap_append,List.flatMap_cons]
theorem jY{α β:Type}(g:α→List β)(l:List α)(k:Nat)(h:k<l.length):(l.take (k+1)).flatMap g=(l.take k).flatMap g++g l[k]:=by
 rw[List.take_succ_eq_append_getElem h,List.flatMap_append];simp
def Cg(L:List Pl):List (List AV):=L.map fun p=>[p.av]
theorem zh{L A B:List Pl}{p:Pl}(h:L=A++p::B):∃hk:A.length<(Cg L).length,(Cg L)[A.length]=[p.av]:=by
 subst h;exact⟨by simp[Cg],by simp[Cg]⟩
def iR(l:List Bool):List (List D):=l.map fun b=>[.v (.bool b)]
theorem tz(l:List Bool):(iR l).length=l.length:=by simp[iR]
theorem tA(l:List Bool)(k:Nat)(h:k<l.length):(iR l)[k]?=some [.v (.bool l[k])]:=by simp[iR,h]
theorem Dm(f:Fl)(hf:f.Ok)(q:Qu)(hq:q.Ok)(a b c:Nat):lN Tryz.prog 54 [.ptr a 0 0 0,.ptr b 0 0 0,.ptr c 0 0 0] (fun H=>H[a]?=some (fB f)∧H[b]?=some (qB q)∧H[c]?=some (rB q)) (Cg (cr f q)):=by
 intro r s0 J Jx m Hs h0 hsb hJ hY
 have hfl:=hf.len
 have hpl:=hq.pred
 have hrl:(cV q).length≤2:=by unfold cV;split<;>simp
 obtain⟨nn,hord⟩:∃nn,∀H,ae Tryz.prog 22 [iA q.pred.length] H (.ok (.d (.list nn ((bR q.pred.length).map ez)))) H:=kE q.pred.length (by omega)
 have hol:(bR q.pred.length).length≤24:=(ko q.pred.length).2.2.1
 refine ni.ak (hint:=fun t=>t==3000000) Tryz.func54 (by kernel_rfl) rfl [] (by kernel_rfl) (by decide) (by simp[Tryz.ntmps54]) ?_
 rw[Tryz.ntmps54]
 obtain⟨⟨hCa,_⟩,_,hl0⟩:=hJ 0 Hs h0
 have hxa:=fun T=>uY hCa T
 simp -implicitDefEqProofs only[↓reduceIte,go_sem,ai,Nat.reduceAdd,Nat.reduceLT,hxa,Fl.ds,List.length_map]
 refine aR (fun k s H'=>∃Hk,J (dC f q k).length Hk∧H'=Hk++[.lp r s0]∧s 0= .ff m∧s 1= .ptr a 0 0 0∧s 2= .ptr b 0 0 0∧s 3= .ptr c 0 0 0∧s 13= .d (.list false (f.projs.map Pj.ds))∧s 14=iA f.projs.length∧s 15=iA k) f.projs.length (by omega) (al.refl _ _) ?_ ?_ ?_
 ·refine⟨Hs,h0,rfl,?_⟩
  simp -implicitDefEqProofs only[↓reduceIte,go_sem,Nat.reduceLT,Nat.reduceEqDiff,reduceCtorEq]
 ·rintro k s H' hk hw ⟨Hk,hJk,rfl,t0,t1,t2,t3,t13,t14,t15⟩
  have hx:(f.projs.map Pj.ds)[k]?=some f.projs[k].ds:=by simp[hk]
  obtain⟨⟨hCa,hCb,hCc⟩,hbk,hlk⟩:=hJ _ _ hJk
  have hia:=ah hCa
  have hib:=ah hCb
  have hic:=ah hCc
  have hxb:=fun T=>uY hCb T
  have hxc:=fun T=>(uY hCc T).trans (show some (rB q)=some (.box 44 1 0 1 [.d (.list false (iR (cV q)))])from rfl)
  have e1:=iO f q hk
  obtain⟨tl,e2⟩:=tC f q hk
  have hpo:=hf.all _ (List.getElem_mem hk)
  rw[e1]
  generalize dC f q k=done at*
  generalize f.projs[k]=p at*
  have hcv:=fun H=>ia p hpo.bC q hq H
  unfold fD at e1 e2⊢
  generalize dT p q=cv at*
  simp -implicitDefEqProofs only[↓reduceIte,go_sem,ai,ar,Nat.reduceAdd,Nat.reduceLT,Nat.reduceEqDiff,Nat.reduceBEq,t2,t13,t14,t15,hk,hx,Pj.ds,hxb,Qu.ds]
  refine ag.ok (hcv _) ?_
  cases cv with
  |false=>
   simp -implicitDefEqProofs only[↓reduceIte,go_sem,Nat.reduceAdd,Nat.reduceLT,Nat.reduceEqDiff,Nat.reduceBEq,reduceCtorEq,t15]
   refine⟨_,_,al.iter rfl hbk hlk hl0 hsb,Hk,by simpa using hJk,rfl,?_⟩
   simp -implicitDefEqProofs only[↓reduceIte,go_sem,Nat.reduceLT,Nat.reduceEqDiff,reduceCtorEq,t0,t1,t2,t3,t13,t14,hw,Nat.lt_add_one,←hlk,Nat.lt_succ_of_lt hia,Nat.lt_succ_of_lt hib,Nat.lt_succ_of_lt hic]
  |true=>
  rw[if_pos rfl]at e2⊢
  generalize hρ:cV q=ρ at*
  simp -implicitDefEqProofs only[↓reduceIte,go_sem,ai,Nat.reduceAdd,Nat.reduceLT,Nat.reduceEqDiff,Nat.reduceBEq,t3,hxc,tz]
  refine aR (fun j s H'=>∃Hk,J (done++(ρ.take j).flatMap (dR k q.pred.length)).length Hk∧H'=Hk++[.lp r s0]∧s 0= .ff m∧s 1= .ptr a 0 0 0∧s 2= .ptr b 0 0 0∧s 3= .ptr c 0 0 0∧s 5=iA k∧s 13= .d (.list false (f.projs.map Pj.ds))∧s 14=iA f.projs.length∧s 15=iA k∧s 24= .d (.list false (iR ρ))∧s 25=iA ρ.length∧s 26=iA j) ρ.length (by omega) (al.iter rfl hbk hlk hl0 hsb) ?_ ?_ ?_
  ·refine⟨Hk,by simpa using hJk,rfl,?_⟩
   simp -implicitDefEqProofs only[↓reduceIte,go_sem,Nat.reduceLT,Nat.reduceEqDiff,reduceCtorEq,t0,t1,t2,t3,t13,t14,t15,Nat.lt_add_one,←hlk,Nat.lt_succ_of_lt hia,Nat.lt_succ_of_lt hib,Nat.lt_succ_of_lt hic]
  ·clear hJk hCa hCb hCc hxb hxc hbk hlk hia hib hic
   rintro j s H' hj hw2 ⟨Hk,hJk,rfl,t0,t1,t2,t3,t5,t13,t14,t15,t24,t25,t26⟩
   obtain⟨⟨hCa,hCb,hCc⟩,hbk,hlk⟩:=hJ _ _ hJk
   have hxb:=fun T=>uY hCb T
   have hx:=tA ρ j hj
   have e3:=nq (dR k q.pred.length) ρ j hj
   rw[e3]at e2
   rw[jY _ _ _ hj]
   generalize List.flatMap (dR k q.pred.length) (List.drop (j+1) ρ)=tl2 at*
   generalize hd1:done++(ρ.take j).flatMap (dR k q.pred.length)=D1 at*
   generalize ρ[j]=g at*
   have e4:cr f q=D1++⟨k,false,upto q.pred.length,0,g⟩::((bR q.pred.length).flatMap (cZ k g)++(tl2++tl)):=by rw[e2,←hd1];simp[dR]
   rw[←List.append_assoc,hd1]
   clear e2 e3 hd1
   obtain⟨hi,hxi⟩:=zh e4
   have hYk:=fun T=>hY _ hi Hk T hJk
   rw[hxi]at hYk
   simp -implicitDefEqProofs only[↓reduceIte,go_sem,ai,Nat.reduceAdd,Nat.reduceLT,Nat.reduceLeDiff,Nat.reduceEqDiff,Nat.reduceBEq,reduceCtorEq,t0,t2,t5,t24,t25,t26,hj,hx,hxb,Qu.ds,List.length_map]
   refine ag.ok (lq q.pred.length (by omega) _) ?_
   simp -implicitDefEqProofs only[↓reduceIte,go_sem,Nat.reduceAdd,Nat.reduceLT,Nat.reduceLeDiff,Nat.reduceEqDiff]
   refine oi.ok (by exact hYk []) ?_
   intro b2 H' hb
   cases b2 with
   |false=>
    rw[if_neg (by simp)]at hb
    obtain⟨Hk',c',hjx,hbk',hlk',rfl⟩:=hb
    simp -implicitDefEqProofs only[↓reduceIte,go_sem,Nat.reduceLT]
    exact⟨_,_,al.iter rfl hbk' hlk' hl0 hsb,rfl,.inr ⟨Hk',c',hjx,hlk',rfl⟩⟩
   |true=>
   rw[if_pos rfl]at hb
   obtain⟨Hk',hJk',rfl⟩:=hb
   clear hYk hJk hCa hCb hCc hxb hbk hlk hxi hi Hk hx
   obtain⟨⟨hCa,hCb,hCc⟩,hbk,hlk⟩:=hJ _ _ hJk'
   have hxb:=fun T=>uY hCb T
   have hia:=ah hCa
   have hib:=ah hCb
   have hic:=ah hCc
   simp -implicitDefEqProofs only[↓reduceIte,go_sem,ai,Nat.reduceAdd,Nat.reduceLT,Nat.reduceLeDiff,Nat.reduceEqDiff,Nat.reduceBEq,t2,hxb,Qu.ds,List.length_map]
   refine ag.ok (hord _) ?_
   generalize hos:bR q.pred.length=os at*
   simp -implicitDefEqProofs only[↓reduceIte,go_sem,Nat.reduceLT,List.length_map]
   refine aR (fun i s H'=>∃Hk,J (D1++⟨k,false,upto q.pred.length,0,g⟩::(os.take i).flatMap (cZ k g)).length Hk∧H'=Hk++[.lp r s0]∧s 0= .ff m∧s 1= .ptr a 0 0 0∧s 2= .ptr b 0 0 0∧s 3= .ptr c 0 0 0∧s 5=iA k∧s 8=bA g∧s 13= .d (.list false (f.projs.map Pj.ds))∧s 14=iA f.projs.length∧s 15=iA k∧s 24= .d (.list false (iR ρ))∧s 25=iA ρ.length∧s 26=iA j∧s 43= .d (.list nn (os.map ez))∧s 44=iA os.length∧s 45=iA i) os.length (by omega) (al.iter rfl hbk hlk hl0 hsb) ?_ ?_ ?_
   ·refine⟨Hk',by simpa using hJk',rfl,?_⟩
    simp -implicitDefEqProofs only[↓reduceIte,go_sem,Nat.reduceLT,Nat.reduceEqDiff,reduceCtorEq,t0,t1,t2,t3,t5,t13,t14,t15,t24,t25,t26,Nat.lt_add_one,←hlk,Nat.lt_succ_of_lt hia,Nat.lt_succ_of_lt hib,Nat.lt_succ_of_lt hic]
   ·clear hJk' hCa hCb hCc hxb hbk hlk hia hib hic
    rintro i s H' hi hw3 ⟨Hk,hJk,rfl,t0,t1,t2,t3,t5,t8,t13,t14,t15,t24,t25,t26,t43,t44,t45⟩
    have hx:(os.map ez)[i]?=some (ez os[i]):=by simp[hi]
    have e3:=nq (cZ k g) os i hi
    rw[e3]at e4
    rw[jY _ _ _ hi]
    generalize List.flatMap (cZ k g) (List.drop (i+1) os)=tl3 at*
    generalize hd1:(⟨k,false,upto q.pred.length,0,g⟩:Pl)::(os.take i).flatMap (cZ k g)=D2 at*
    have hd2:∀x,D1++(⟨k,false,upto q.pred.length,0,g⟩:Pl)::((os.take i).flatMap (cZ k g)++x)=(D1++D2)++x:=fun x=>by rw[←hd1];simp
    generalize os[i]=o at*
    have e5:cr f q=(D1++D2)++(cZ k g o++(tl3++(tl2++tl))):=by rw[e4,←hd2];simp
    rw[hd2]
    clear e3 e4 hd1 hd2
    generalize D1++D2=D3 at*
    simp -implicitDefEqProofs only[↓reduceIte,go_sem,Nat.reduceAdd,Nat.reduceLT,Nat.reduceEqDiff,Nat.reduceBEq,t43,t44,t45,hi,hx,ez]
    refine bw (fun n s H'=>∃Hk,J (D3++(cZ k g o).take n).length Hk∧H'=Hk++[.lp r s0]∧s 0= .ff m∧s 1= .ptr a 0 0 0∧s 2= .ptr b 0 0 0∧s 3= .ptr c 0 0 0∧s 5=iA k∧s 8=bA g∧s 10= .d (.list false (ints o))∧s 11=iA ((n:Int)+1)∧s 13= .d (.list false (f.projs.map Pj.ds))∧s 14=iA f.projs.length∧s 15=iA k∧s 24= .d (.list false (iR ρ))∧s 25=iA ρ.length∧s 26=iA j∧s 43= .d (.list nn (os.map ez))∧s 44=iA os.length∧s 45=iA i) 3 (by omega) (al.refl _ _) ?_ ?_ ?_
    ·refine⟨Hk,by simpa using hJk,rfl,?_⟩
     simp -implicitDefEqProofs only[↓reduceIte,go_sem,Nat.reduceLT,Nat.reduceEqDiff,Int.reduceAdd,reduceCtorEq,t0,t1,t2,t3,t5,t8,t13,t14,t15,t24,t25,t26,t43,t44,t45]
    ·clear hJk
     rintro n s H' hn hw4 ⟨Hk,hJk,rfl,t0,t1,t2,t3,t5,t8,t10,t11,t13,t14,t15,t24,t25,t26,t43,t44,t45⟩
     obtain⟨_,hbk,hlk⟩:=hJ _ _ hJk
     have e6:cZ k g o=(cZ k g o).take n++⟨k,true,o,(n:Int)+1,g⟩::(cZ k g o).drop (n+1):=by
      rcases n with _|_|_|n<;>first|rfl|omega
     have e7:(cZ k g o).take (n+1)=(cZ k g o).take n++[⟨k,true,o,(n:Int)+1,g⟩]:=by
      rcases n with _|_|_|n<;>first|rfl|omega
     rw[e6]at e5
     rw[e7]
     generalize (cZ k g o).drop (n+1)=tl4 at*
     generalize (cZ k g o).take n=W at*
     have e8:cr f q=(D3++W)++⟨k,true,o,(n:Int)+1,g⟩::(tl4++(tl3++(tl2++tl))):=by rw[e5];simp
     obtain⟨hi2,hxi⟩:=zh e8
     have hYk:=fun T=>hY _ hi2 Hk T hJk
     rw[hxi]at hYk
     clear e5 e6 e7 e8
     obtain⟨n1,hn1⟩:∃n1:Int,n1=(n:Int)+1:=⟨_,rfl⟩
     rw[←hn1]at hYk t11⊢
     simp -implicitDefEqProofs only[↓reduceIte,go_sem,Nat.reduceAdd,Nat.reduceLT,Nat.reduceLeDiff,Nat.reduceEqDiff,reduceCtorEq,t0,t5,t8,t10,t11,show n1≤3 by omega]
     refine oi.ok (by exact hYk []) ?_
     intro b2 H' hb
     cases b2 with
     |false=>
      rw[if_neg (by simp)]at hb
      obtain⟨Hk',c',hjx,hbk',hlk',rfl⟩:=hb
      simp -implicitDefEqProofs only[↓reduceIte,go_sem,Nat.reduceLT]
      exact⟨_,_,al.iter rfl hbk' hlk' hl0 hsb,rfl,.inr ⟨Hk',c',hjx,hlk',rfl⟩⟩
     |true=>
     rw[if_pos rfl]at hb
     obtain⟨Hk',hJk',rfl⟩:=hb
     obtain⟨⟨hCa,hCb,hCc⟩,hbk',hlk'⟩:=hJ _ _ hJk'
     have hia:=ah hCa
     have hib:=ah hCb
     have hic:=ah hCc
     simp -implicitDefEqProofs only[↓reduceIte,go_sem,Nat.reduceAdd,Nat.reduceLT,Nat.reduceEqDiff,Nat.reduceBEq,t11]
     refine⟨_,_,al.iter rfl hbk' hlk' hl0 hsb,Hk',by simpa[Nat.add_assoc]using hJk',rfl,?_⟩
     simp -implicitDefEqProofs only[↓reduceIte,go_sem,Nat.reduceLT,Nat.reduceEqDiff,reduceCtorEq,t0,t1,t2,t3,t5,t8,t10,t13,t14,t15,t24,t25,t26,t43,t44,t45,Nat.lt_add_one,←hlk',Nat.lt_succ_of_lt hia,Nat.lt_succ_of_lt hib,Nat.lt_succ_of_lt hic,wrap64_in (n1+1) (by omega) (by omega),show(n:Int)+1+1=n1+1 by omega]
    ·rintro s H' ⟨Hk,hJk,rfl,t0,t1,t2,t3,t5,t8,t10,t11,t13,t14,t15,t24,t25,t26,t43,t44,t45⟩
     obtain⟨⟨hCa,hCb,hCc⟩,hbk,hlk⟩:=hJ _ _ hJk
     have hia:=ah hCa
     have hib:=ah hCb
     have hic:=ah hCc
     simp -implicitDefEqProofs only[↓reduceIte,go_sem,Nat.reduceAdd,Nat.reduceLT,Nat.reduceEqDiff,Nat.reduceBEq,Int.reduceLE,Int.reduceAdd,t11,t45]
     refine⟨_,_,al.iter rfl hbk hlk hl0 hsb,Hk,by simpa[cZ]using hJk,rfl,?_⟩
     simp -implicitDefEqProofs only[↓reduceIte,go_sem,Nat.reduceLT,Nat.reduceEqDiff,reduceCtorEq,t0,t1,t2,t3,t5,t8,t13,t14,t15,t24,t25,t26,t43,t44,hw3,Nat.lt_add_one,←hlk,Nat.lt_succ_of_lt hia,Nat.lt_succ_of_lt hib,Nat.lt_succ_of_lt hic]
   ·rintro s H' ⟨Hk,hJk,rfl,t0,t1,t2,t3,t5,t8,t13,t14,t15,t24,t25,t26,t43,t44,t45⟩
    rw[List.take_length]at hJk
    obtain⟨⟨hCa,hCb,hCc⟩,hbk,hlk⟩:=hJ _ _ hJk
    have hia:=ah hCa
    have hib:=ah hCb
    have hic:=ah hCc
    simp -implicitDefEqProofs only[↓reduceIte,go_sem,Nat.reduceAdd,Nat.reduceLT,Nat.reduceEqDiff,Nat.reduceBEq,t44,t45,t26]
    refine⟨_,_,al.iter rfl hbk hlk hl0 hsb,Hk,by simpa[dR,hos]using hJk,rfl,?_⟩
    simp -implicitDefEqProofs only[↓reduceIte,go_sem,Nat.reduceLT,Nat.reduceEqDiff,reduceCtorEq,t0,t1,t2,t3,t5,t13,t14,t15,t24,t25,hw2,Nat.lt_add_one,←hlk,Nat.lt_succ_of_lt hia,Nat.lt_succ_of_lt hib,Nat.lt_succ_of_lt hic]
  ·rintro s H' ⟨Hk,hJk,rfl,t0,t1,t2,t3,t5,t13,t14,t15,t24,t25,t26⟩
   rw[List.take_length]at hJk
   obtain⟨⟨hCa,hCb,hCc⟩,hbk,hlk⟩:=hJ _ _ hJk
   have hia:=ah hCa
   have hib:=ah hCb
   have hic:=ah hCc
   simp -implicitDefEqProofs only[↓reduceIte,go_sem,Nat.reduceAdd,Nat.reduceLT,Nat.reduceEqDiff,Nat.reduceBEq,t25,t26,t15]
   refine⟨_,_,al.iter rfl hbk hlk hl0 hsb,Hk,by simpa using hJk,rfl,?_⟩
   simp -implicitDefEqProofs only[↓reduceIte,go_sem,Nat.reduceLT,Nat.reduceEqDiff,reduceCtorEq,t0,t1,t2,t3,t13,t14,hw,Nat.lt_add_one,←hlk,Nat.lt_succ_of_lt hia,Nat.lt_succ_of_lt hib,Nat.lt_succ_of_lt hic]
 ·rintro s H' ⟨Hk,hJk,rfl,t0,t1,t2,t3,t13,t14,t15⟩
  obtain⟨_,hbk,hlk⟩:=hJ _ _ hJk
  simp -implicitDefEqProofs only[↓reduceIte,go_sem,Nat.reduceLT,t14,t15]
  exact⟨_,_,al.iter rfl hbk hlk hl0 hsb,rfl,.inl ⟨Hk,by simpa[Cg,cr]using hJk,rfl⟩⟩
theorem lR(gf:FuncId)(caps:List AV)(C:aa→Prop)(l:List Pl)(H:aa)(hs:lN Tryz.prog gf caps C (l.map fun v=>[v.av]))(hC:∀T,C (H++T))(hl:l.length≤1000000000):
  ae Tryz.prog 53 [.d (.v (.slice none 0 0)),.fn gf caps] H (.ok (.d (.list false (l.map Pl.ds)))) H:=by
 refine ae.ak (hint:=(fun t=>t==2000000)) Tryz.func53 (by kernel_rfl) rfl [4] (by kernel_rfl) (by decide) (by simp[Tryz.ntmps53]) ?_
 rw[Tryz.ntmps53]
 simp -implicitDefEqProofs only[↓reduceIte,go_sem,Nat.reduceAdd,Nat.reduceLT,Nat.reduceEqDiff,Nat.reduceBEq]
 refine jb (fun _=>false) (fun k Hk=>Hk=H++[.box 39 1 0 1 [.sl (H.length+1) k 0 k],.arr 43 5 k ((l.take k).map Pl.ds)]) (fun _ _=>False) rfl rfl (al.dc _ _ H.length 39 1 0 1 [.d (.v (.slice none 0 0))] 0 _ 43 5 (by decide) (by simp) rfl rfl) (by simp -implicitDefEqProofs only[↓reduceIte,go_sem,Nat.reduceLT]) hs ?_ ?_ ?_ ?_ ?_ (fun _ _ h=>h.elim)
 ·intro v hv
  obtain⟨u,_,rfl⟩:=List.mem_map.1 hv
  exact⟨rfl,fun w hw=>by rw[List.mem_singleton.1 hw];rfl⟩
 ·simp -implicitDefEqProofs only[go_sem,List.take_zero]
 ·rintro k _ rfl
  exact⟨hC _,by simp -implicitDefEqProofs only[go_sem,Nat.reduceAdd]⟩
 ·rintro k hk _ rfl
  rw[List.length_map]at hk
  have e1:(l.take (k+1)).map Pl.ds=(l.take k).map Pl.ds++[l[k].ds]:=by rw[List.take_succ_eq_append_getElem hk,List.map_append];rfl
  have hlen:((l.take k).map Pl.ds).length=k:=by rw[List.length_map,List.length_take];omega
  rw[e1,List.getElem_map]
  generalize (l.take k).map Pl.ds=B at*
  generalize l[k]=v at*
  rw[show v.av= .agg [iA v.proj,bA v.late,.d (.list false (ints v.order)),iA v.rep,bA v.range]from rfl]
  simp -implicitDefEqProofs only[↓reduceIte,go_sem,ai,ar,Nat.reduceAdd,Nat.reduceLT,Nat.reduceLeDiff,Nat.reduceEqDiff,hlen]
  refine⟨by omega,by omega,?_⟩
  refine tn.cut [.box 39 1 0 1 [.sl (H.length+1) (k+1) 0 (k+1)],.arr 43 5 (k+1) (B++[v.ds])] _ rfl rfl (by simp -implicitDefEqProofs only[go_sem,Nat.reduceAdd]) (by simp -implicitDefEqProofs only[go_sem,Nat.reduceAdd,Nat.reduceLT]) ?_
  rfl
 ·rintro _ rfl
  rw[List.length_map,List.take_length]
  simp -implicitDefEqProofs only[↓reduceIte,go_sem,ai,Nat.reduceAdd,Nat.reduceLT,Nat.reduceEqDiff,Nat.reduceBEq]
  refine az.ret ?_
  simp -implicitDefEqProofs only[↓reduceIte,go_sem,Nat.reduceLT,List.take_of_length_le (show(l.map Pl.ds).length≤l.length by simp)]
theorem nY(gf:FuncId)(caps:List AV)(C:aa→Prop)(l:List Pl)(H:aa)(hs:lN Tryz.prog gf caps C (l.map fun v=>[v.av]))(hC:∀T,C (H++T))(hl:l.length≤1000000000):
  ae Tryz.prog 27 [.fn gf caps] H (.ok (.d (.list false (l.map Pl.ds)))) H:=by
 refine ae.ak (hint:=(fun _=>false)) Tryz.func27 (by kernel_rfl) rfl [2] (by kernel_rfl) (by decide) (by simp[Tryz.ntmps27]) ?_
 rw[Tryz.ntmps27]
 simp -implicitDefEqProofs only[↓reduceIte,go_sem,Nat.reduceLT,reduceCtorEq]
 refine ag.ok (lR gf caps C l _ hs hC hl) ?_
 simp -implicitDefEqProofs only[↓reduceIte,go_sem,Nat.reduceLT]
 refine az.aW ?_
 simp -implicitDefEqProofs only[↓reduceIte,go_sem,Nat.reduceLT]
theorem A4(L:List Pl):Cg L=L.map fun v=>[v.av]:=rfl
theorem mj(f:Fl)(hf:f.Ok)(q:Qu)(hq:q.Ok)(hl:(cr f q).length≤1000000000)(H:aa):ae Tryz.prog 11 [f.av,q.av] H (.ok (.d (.list false ((cr f q).map Pl.ds)))) H:=by
 obtain⟨v,ha⟩:=n7 f q hq (H++[fB f,qB q])
 have hs:=Dm f hf q hq (H.length+2) (H.length+3) (H.length+5)
 rw[A4]at hs
 have hc:=nY _ _ _ (cr f q) (H++[fB f,qB q,fB f,qB q,.arr 4 1 v [],rB q]) hs (fun T=>⟨by simp,by simp,by simp⟩) hl
 generalize cr f q=L at*
 refine ae.ak (hint:=(fun _=>false)) Tryz.func11 (by kernel_rfl) rfl [4] (by kernel_rfl) (by decide) (by simp[Tryz.ntmps11]) ?_
 rw[Tryz.ntmps11]
 simp -implicitDefEqProofs only[↓reduceIte,go_sem,ai,Nat.reduceAdd,Nat.reduceLT,Nat.reduceEqDiff,Fl.av,Fl.ds,Qu.av,Qu.ds]
 refine ag.ok (by exact ha) ?_
 simp -implicitDefEqProofs only[↓reduceIte,go_sem,Nat.reduceAdd,Nat.reduceLT]
 refine ag.ok (by exact hc) ?_
 simp -implicitDefEqProofs only[↓reduceIte,go_sem,Nat.reduceLT]
 refine az.ret ?_
 simp -implicitDefEqProofs only[↓reduceIte,go_sem,Nat.reduceLT]
theorem tt{f:Fl}{q:Qu}{x:Pl}(h:x∈cr f q):∃(i:Nat) (p:Pj),x.proj=i∧f.projs[i]?=some p∧dT p q=true∧x.range∈cV q∧
  ((x.late=false∧x.order=upto q.pred.length∧x.rep=0)∨(x.late=true∧x.order∈bR q.pred.length∧1≤x.rep∧x.rep≤3)):=by
 unfold cr dC at h
 obtain⟨i,hi,h⟩:=List.mem_flatMap.1 h
 cases e:f.projs[i]? with
 |none=>rw[e]at h;cases h
 |some p=>
  rw[e]at h
  simp only at h
  unfold fD at h
  split at h
  ·rename_i hc
   obtain⟨r,hr,h⟩:=List.mem_flatMap.1 h
   unfold dR at h
   rcases List.mem_cons.1 h with rfl|h
   ·exact⟨i,p,rfl,e,hc,hr,.inl ⟨rfl,rfl,rfl⟩⟩
   ·obtain⟨o,ho,h⟩:=List.mem_flatMap.1 h
    unfold cZ at h
    simp only[List.mem_cons,List.not_mem_nil,or_false]at h
    rcases h with rfl|rfl|rfl<;>exact⟨i,p,rfl,e,hc,hr,.inr ⟨rfl,ho,by simp,by simp⟩⟩
  ·cases h
def nS(f:Fl)(q:Qu)(k:Nat):Nat:=((f.projs.take k).filter fun p=>dT p q).length
def uc(q:Qu):Nat:=(cV q).length* (1+3* (bR q.pred.length).length)
theorem o8(i:Nat)(r:Bool):∀os:List (List Int),(os.flatMap (cZ i r)).length=3* os.length
 |[]=>rfl
 |o::os=>by rw[List.flatMap_cons,List.length_append,o8 i r os,List.length_cons];simp[cZ];omega
theorem um(q:Qu)(i:Nat)(p:Pj):(fD q i p).length=if dT p q then uc q else 0:=by
 have:∀rs:List Bool,(rs.flatMap (dR i q.pred.length)).length=rs.length* (1+3* (bR q.pred.length).length):=by
  intro rs
  induction rs with
  |nil=>simp
  |cons r rs ih=>rw[List.flatMap_cons,List.length_append,ih,List.length_cons,Nat.succ_mul rs.length,show(dR i q.pred.length r).length=1+3* (bR q.pred.length).length from by unfold dR;rw[List.length_cons,o8];omega];omega
 unfold fD
 split
 ·exact this _
 ·rfl
theorem o4(f:Fl)(q:Qu){k:Nat}(h:k<f.projs.length):nS f q (k+1)=nS f q k+if dT f.projs[k] q then 1 else 0:=by
 unfold nS
 rw[List.take_succ_eq_append_getElem h,List.filter_append,List.length_append]
 cases hc:dT f.projs[k] q<;>simp[hc]
theorem pV(f:Fl)(q:Qu)(k:Nat):nS f q k≤k:=Nat.le_trans (List.length_filter_le _ _) (List.length_take_le _ _)
theorem nD(f:Fl)(q:Qu):∀k,k≤f.projs.length→(dC f q k).length=nS f q k* uc q
 |0,_=>by simp[dC,nS]
 |k+1,h=>by
  rw[iO f q (by omega),List.length_append,nD f q k (by omega),um,o4 f q (by omega),Nat.add_mul]
  split<;>simp
theorem sZ(q:Qu):(cV q).length=if 0<q.bU.length then 2 else 1:=by unfold cV;split<;>rfl
theorem AL(q:Qu):uc q≤146:=by
 have h:=(ko q.pred.length).2.2.1
 unfold uc
 rw[sZ]
 have:(if 0<q.bU.length then 2 else 1)≤2:=by split<;>omega
 exact Nat.le_trans (Nat.mul_le_mul this (show 1+3* (bR q.pred.length).length≤73 by omega)) (by omega)
theorem mX(f:Fl)(q:Qu):(cr f q).length=nS f q f.projs.length* uc q:=nD f q _ (Nat.le_refl _)
theorem oW(f:Fl)(q:Qu)(h:f.projs.length≤3):(cr f q).length≤438:=by
 rw[mX]
 exact Nat.le_trans (Nat.mul_le_mul (Nat.le_trans (pV _ _ _) h) (AL q)) (by omega)
theorem oV{i:Nat}{r:Bool}{o:List Int}{x:Pl}(h:x∈cZ i r o):x.proj=i∧x.range=r∧x.order=o∧x.late=true:=by
 unfold cZ at h
 simp only[List.mem_cons,List.not_mem_nil,or_false]at h
 rcases h with rfl|rfl|rfl<;>exact⟨rfl,rfl,rfl,rfl⟩
theorem uy{i n:Nat}{r:Bool}{x:Pl}(h:x∈dR i n r):x.proj=i∧x.range=r:=by
 unfold dR at h
 rcases List.mem_cons.1 h with rfl|h
 ·exact⟨rfl,rfl⟩
 ·obtain⟨o,_,h⟩:=List.mem_flatMap.1 h
  exact⟨(oV h).1,(oV h).2.1⟩
theorem gF{q:Qu}{i:Nat}{p:Pj}{x:Pl}(h:x∈fD q i p):x.proj=i:=by
 unfold fD at h
 split at h
 ·obtain⟨r,_,h⟩:=List.mem_flatMap.1 h
  exact(uy h).1
 ·cases h
theorem r7(f:Fl)(q:Qu)(R:Pl→Pl→Prop)(h1:∀i p,(fD q i p).Pairwise R)(h2:∀x y:Pl,x.proj<y.proj→R x y):(cr f q).Pairwise R:=by
 unfold cr dC
 rw[List.pairwise_flatMap]
 refine⟨fun i _=>?_,?_⟩
 ·split
  ·exact h1 _ _
  ·exact .nil
 ·refine List.Pairwise.imp (fun{a b} hab x hx y hy=>?_) (List.pairwise_lt_range (n:=f.projs.length))
  refine h2 x y ?_
  have e1:x.proj=a:=by split at hx;exact gF hx;cases hx
  have e2:y.proj=b:=by split at hy;exact gF hy;cases hy
  omega
theorem rQ(f:Fl)(q:Qu):(cr f q).Pairwise fun x y=>x.proj≤y.proj:=
 r7 f q _ (fun i p=>List.pairwise_of_forall_mem_list fun x hx y hy=>by rw[gF hx,gF hy];exact Int.le_refl _) fun x y h=>by omega
def Qu.small(n:Nat)(q:Qu):Prop:=q.pred.length≤n∧q.bU.length≤n∧q.bC.length≤n∧q.cI.length≤n
instance (n:Nat) (q:Qu):Decidable (q.small n):=by unfold Qu.small;infer_instance
theorem Qu.small.ok{n:Nat}{q:Qu}(h:q.small n)(hn:n≤100):q.Ok:=by obtain⟨h1,h2,h3,h4⟩:=h;exact⟨by omega,by omega,by omega,by omega⟩
theorem pU(q:Qu)(H:aa):ae Tryz.prog 10 [q.av] H (.ok (bA (decide (q.small 6)))) H:=by
 have c1:∀n:Nat,((n:Int)≤6)=(n≤6):=fun n=>by simp;omega
 unfold Qu.small
 refine ae.ak (hint:=(fun _=>false)) Tryz.func10 (by kernel_rfl) rfl [2] (by kernel_rfl) (by decide) (by simp[Tryz.ntmps10]) ?_
 rw[Tryz.ntmps10]
 simp -implicitDefEqProofs only[↓reduceIte,go_sem,ai,Nat.reduceAdd,Nat.reduceLT,Nat.reduceLeDiff,Nat.reduceEqDiff,Qu.av,Qu.ds]
 by_cases h1:q.pred.length≤6
 case' pos=>
  by_cases h2:q.bU.length≤6
  case' pos=>
   by_cases h3:q.bC.length≤6
   case' pos=>by_cases h4:q.cI.length≤6
 all_goals
  simp -implicitDefEqProofs only[↓reduceIte,go_sem,ai,Nat.reduceAdd,Nat.reduceLT,Nat.reduceLeDiff,Nat.reduceEqDiff,reduceCtorEq,List.length_map,aA, *]
  refine az.ret ?_
  simp -implicitDefEqProofs only[↓reduceIte,go_sem,Nat.reduceLT]<;>simp[*]
def Qu.bare(q:Qu):Qu:={q with pred:=[],bU:=[]}
theorem pW(q:Qu):uc q.bare=4:=by
 have h1:cV q.bare=[false]:=rfl
 have h2:(bR q.bare.pred.length).length=1:=by
  have:bR 0=[[]]:=by decide
  show(bR 0).length=1
  rw[this];rfl
 unfold uc
 rw[h1,h2];rfl
theorem ta(q:Qu):Sub (.agg [.d q.table,.d (.v (.slice none 0 0)),.d (.v (.slice none 0 0)),.d (.list false (ints q.bC)),.d q.group,.d (.list false (q.cI.map sm)),.d q.order,.d q.zp]) q.bare.av:=
 .agg (.cons (.refl _) (.cons .nil (.cons .nil (.cons (.refl _) (.cons (.refl _) (.cons (.refl _) (.cons (.refl _) (.cons (.refl _) .nil))))))))
theorem AY{L:List Pl}{k:Nat}(h:k<L.length):(L.map Pl.ds)[k]?=some L[k].ds:=by simp[h]
theorem mZ(t:gZ)(ht:t.Ok)(q:Qu)(H:aa):ae Tryz.prog 4 [t.av,q.av] H (.ok (bA true)) H:=by
 have hof:=fun H=>xF t ht H
 have hfk:=Bw (t:=t)
 have hfm:=oG (t:=t)
 have hf3:=iM t 2
 generalize qs t=fb at*
 obtain⟨f,b⟩:=fb
 simp only at hof hfk hfm
 have hsm:=fun H=>pU q H
 refine ae.ak (hint:=(fun _=>false)) Tryz.func4 (by kernel_rfl) rfl [4] (by kernel_rfl) (by decide) (by simp[Tryz.ntmps4]) ?_
 rw[Tryz.ntmps4]
 simp -implicitDefEqProofs only[↓reduceIte,go_sem,Nat.reduceAdd,Nat.reduceLT,Nat.reduceEqDiff,gZ.av,gZ.ds,Qu.av,Qu.ds]
 refine ag.ok (pK _) ?_
 simp -implicitDefEqProofs only[↓reduceIte,go_sem,ai,Nat.reduceAdd,Nat.reduceLT,Nat.reduceEqDiff]
 refine ag.ok (hof _) ?_
 cases b with
 |false=>
  simp -implicitDefEqProofs only[↓reduceIte,go_sem,ar,Nat.reduceAdd,Nat.reduceLT,Nat.reduceEqDiff,Fl.av,Fl.ds]
  refine az.ret ?_
  simp -implicitDefEqProofs only[↓reduceIte,go_sem,Nat.reduceLT]
 |true=>
 simp -implicitDefEqProofs only[↓reduceIte,go_sem,ai,ar,Nat.reduceAdd,Nat.reduceLT,Nat.reduceEqDiff,Fl.av,Fl.ds]
 refine ag.ok (hsm _) ?_
 by_cases hs:q.small 6
 case neg=>
  simp -implicitDefEqProofs only[↓reduceIte,go_sem,Nat.reduceLT,Nat.reduceEqDiff,reduceCtorEq,hs]
  refine az.ret ?_
  simp -implicitDefEqProofs only[↓reduceIte,go_sem,Nat.reduceLT]
 have hq:=hs.ok (by omega)
 have hok:=hfk rfl
 have hfl:f.projs.length≤3:=by rw[(hfm rfl).1];exact hf3
 clear hof hfk hfm hf3
 have hle:=oW f q hfl
 have hpl:=fun H=>mj f hok q hq (by omega) H
 have hmem:∀x∈cr f q,_:=fun x hx=>tt hx
 have hrise:=rQ f q
 generalize cr f q=L at*
 have hqb:q.bare.Ok:=⟨by simp[Qu.bare],by simp[Qu.bare],hq.bC,hq.cI⟩
 have hle2:=oW f q.bare hfl
 have hpl2:=fun H=>mj f hok q.bare hqb (by omega) H
 have hlen2:=mX f q.bare
 rw[pW]at hlen2
 generalize cr f q.bare=M at*
 simp -implicitDefEqProofs only[↓reduceIte,go_sem,ai,Nat.reduceAdd,Nat.reduceLT,Nat.reduceEqDiff,reduceCtorEq,hs]
 refine ag.ok (hpl _) ?_
 simp -implicitDefEqProofs only[↓reduceIte,go_sem,Nat.reduceLT]
 refine bw (fun k s H'=>H'=H++[.box 26 6 0 1 (t.ds.map .d),qB q,fB f]∧s 3= .ptr (H.length+1) 0 0 0∧s 5=bA true∧s 6= .ptr (H.length+2) 0 0 0∧s 8= .d (.list false (L.map Pl.ds))∧s 9=iA k) L.length (by omega) (al.refl _ _) ?_ ?_ ?_
 ·refine⟨rfl,?_⟩
  simp -implicitDefEqProofs only[↓reduceIte,go_sem,Nat.reduceLT,Nat.reduceEqDiff]
 ·rintro k s H' hk hw ⟨rfl,t3,t5,t6,t8,t9⟩
  have hx:=AY hk
  obtain⟨i,p,h1,h2,h3,_⟩:=hmem L[k] (List.getElem_mem hk)
  have hi:=(List.getElem?_eq_some_iff.1 h2).1
  have hpx:(f.projs.map Pj.ds)[i]?=some p.ds:=by simp[h2]
  have hcv:=fun H=>ia p (hok.all _ (List.mem_of_getElem? h2)).bC q hq H
  rw[h3]at hcv
  have hprev:0<k→∀h:k-1<L.length,(L[k-1]).proj≤i:=fun h0 h=>by
   rw[←h1]
   exact List.pairwise_iff_getElem.1 hrise (k-1) k h hk (by omega)
  have hpx2:0<k→∃pv,L[k-1]?=some pv∧pv.proj≤i:=fun h0=>⟨L[k-1],List.getElem?_eq_getElem (by omega),hprev h0 (by omega)⟩
  have hwk:0<k→IntKind.i64.wrap ((k:Int)-1)=((k-1:Nat):Int):=fun h0=>by rw[wrap64_in _ (by omega) (by omega)];omega
  clear hprev
  generalize L[k]=x at*
  obtain⟨xj,xl,xo,xr,xg⟩:=x
  simp only at h1
  subst h1
  simp -implicitDefEqProofs only[↓reduceIte,go_sem,Nat.reduceLT,Nat.reduceEqDiff,t8,t9,List.length_map,hk]
  refine bc K.mixed (by kernel_rfl) ?_
  rcases Nat.eq_zero_or_pos k with h0|h0
  case' inr=>
   obtain⟨pv,hpv,hple⟩:=hpx2 h0
   have hpy:(L.map Pl.ds)[k-1]?=some pv.ds:=by simp[hpv]
   simp -implicitDefEqProofs only[↓reduceIte,go_sem,ai,Nat.reduceAdd,Nat.reduceLT,Nat.reduceLeDiff,Nat.reduceEqDiff,reduceCtorEq,t3,t6,t8,t9,hx,Pl.ds,iD,Fl.ds,Qu.ds,List.length_map,show ¬(i:Int)<0 by omega,show ¬(f.projs.length:Int)≤i by omega,show(0:Int)<k by omega,hwk h0,hpy,show ¬(i:Int)<pv.proj by omega,hpx,Pj.ds]
  case' inl=>simp -implicitDefEqProofs only[↓reduceIte,go_sem,ai,Nat.reduceAdd,Nat.reduceLT,Nat.reduceLeDiff,Nat.reduceEqDiff,reduceCtorEq,t3,t6,t8,t9,hx,Pl.ds,iD,Fl.ds,Qu.ds,List.length_map,show ¬(i:Int)<0 by omega,show ¬(f.projs.length:Int)≤i by omega,show ¬(0:Int)<k by omega,hpx,Pj.ds]
  all_goals
   refine ag.ok (by exact hcv _) ?_
   simp -implicitDefEqProofs only[↓reduceIte,go_sem,Nat.reduceLT,Nat.reduceEqDiff,reduceCtorEq,t9]
   refine dg.same ⟨rfl,?_⟩
   simp -implicitDefEqProofs only[↓reduceIte,go_sem,Nat.reduceLT,Nat.reduceEqDiff,t3,t5,t6,t8,hw]
 ·rintro s H' ⟨rfl,t3,t5,t6,t8,t9⟩
  simp -implicitDefEqProofs only[↓reduceIte,go_sem,ai,ar,Nat.reduceAdd,Nat.reduceLT,Nat.reduceLeDiff,Nat.reduceEqDiff,t3,t6,t8,t9,List.length_map,Fl.ds,Qu.ds]
  refine ag.sub (.cons (.refl _) (.cons (ta q) .nil)) (hpl2 _) ?_
  simp -implicitDefEqProofs only[↓reduceIte,go_sem,Nat.reduceLT]
  obtain⟨qb,hqb⟩:∃qb,qb=ay.box 31 8 0 1 [.d q.table,.d (.v (.slice none 0 0)),.d (.v (.slice none 0 0)),.d (.list false (ints q.bC)),.d q.group,.d (.list false (q.cI.map sm)),.d q.order,.d q.zp]:=⟨_,rfl⟩
  rw[←hqb]
  refine bw (fun k s H'=>H'=H++[.box 26 6 0 1 (t.ds.map .d),qb,fB f]∧s 3= .ptr (H.length+1) 0 0 0∧s 5=bA true∧s 6= .ptr (H.length+2) 0 0 0∧s 10= .d (.list false (M.map Pl.ds))∧s 11=iA (nS f q.bare k)∧s 12=iA k) f.projs.length (by omega) (al.refl _ _) ?_ ?_ ?_
  ·refine⟨rfl,?_⟩
   simp -implicitDefEqProofs only[↓reduceIte,go_sem,Nat.reduceLT,Nat.reduceEqDiff,t3,t5,t6]
   rfl
  ·rintro k s H' hk hw ⟨rfl,t3,t5,t6,t10,t11,t12⟩
   have hx:(f.projs.map Pj.ds)[k]?=some f.projs[k].ds:=by simp[hk]
   have e1:=o4 f q.bare hk
   have hcl:=pV f q.bare k
   have hcv:=fun H=>ia f.projs[k] (hok.all _ (List.getElem_mem hk)).bC q.bare (by assumption) H
   generalize nS f q.bare k=m at*
   generalize f.projs[k]=p at*
   simp -implicitDefEqProofs only[↓reduceIte,go_sem,ai,Nat.reduceAdd,Nat.reduceLT,Nat.reduceEqDiff,t6,t12,Fl.ds,List.length_map,hk]
   refine bc K.mixed (by kernel_rfl) ?_
   simp -implicitDefEqProofs only[↓reduceIte,go_sem,ai,Nat.reduceAdd,Nat.reduceLT,Nat.reduceEqDiff,t3,t6,t12,Fl.ds,hx,Pj.ds,hqb]
   refine ag.sub (.cons (.refl _) (.cons (ta q) .nil)) (by exact hcv _) ?_
   rw[←hqb]
   cases hc:dT p q.bare
   case' true=>
    rw[hc,if_pos rfl]at e1
    simp -implicitDefEqProofs only[↓reduceIte,go_sem,Nat.reduceLT,Nat.reduceEqDiff,t11,t12]
   case' false=>
    rw[hc,if_neg (by simp)]at e1
    simp -implicitDefEqProofs only[↓reduceIte,go_sem,Nat.reduceLT,Nat.reduceEqDiff,t12]
   all_goals
    refine dg.same ⟨rfl,?_⟩
    rw[e1]
    simp -implicitDefEqProofs only[↓reduceIte,go_sem,Nat.reduceLT,Nat.reduceEqDiff,t3,t5,t6,t10,t11,hw]
   rw[wrap64_in _ (by omega) (by omega)]
  ·rintro s H' ⟨rfl,t3,t5,t6,t10,t11,t12⟩
   have hcl:=pV f q.bare f.projs.length
   generalize nS f q.bare f.projs.length=m at*
   simp -implicitDefEqProofs only[↓reduceIte,go_sem,ai,Nat.reduceAdd,Nat.reduceLT,Nat.reduceEqDiff,t5,t6,t10,t11,t12,Fl.ds,List.length_map,hlen2]
   refine az.ret ?_
   simp -implicitDefEqProofs only[↓reduceIte,go_sem,Nat.reduceLT]
   rw[wrap64_in _ (by omega) (by omega),decide_eq_true (by omega)]
theorem planProjs_does(x0:AV)(h0:ka Tryz.prog 26 x0)(x1:AV)(h1:ka Tryz.prog 31 x1):ae Tryz.prog 4 [x0,x1] [] (.ok (.d (.v (.bool true)))) []:=by
 obtain⟨t,rfl,ht⟩:=AZ h0
 obtain⟨q,rfl⟩:=Ec h1
 exact mZ t ht q []
end Go.Proofs.YtfklokhopcmloaaGreat

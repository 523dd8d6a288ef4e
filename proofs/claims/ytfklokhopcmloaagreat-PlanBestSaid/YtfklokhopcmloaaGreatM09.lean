/- Contracts of functions and lemmas for planBest_holds, part 9. -/
import Derived.Test.YtfklokhopcmloaaGreatM08
set_option maxHeartbeats 8000000
set_option maxRecDepth 100000
set_option linter.all false
namespace Go.Proofs.YtfklokhopcmloaaGreat
open Go.Proofs.YtfklokhopcmloaaGreatAw Go.RowKit
def ea(q:Qu)(pl:Pl):List Atom:=if pl.late then fy q.pred pl.order else q.pred
def gA(p:Pj)(q:Qu)(pl:Pl)(sum k:Nat):Nat:=
 if nm p (bZ p.cJ k) (ea q pl)then sum else
  let rows:=((bZ p.cJ k).getD 0 uY).rows
  let s1:=if pl.late then fQ (fQ sum pl.rep.toNat) (oN p q (ea q pl) (bZ p.cJ k) rows)else fQ sum (kv p q rows)
  if pl.range then s1 else fQ s1 (so rows q.bu.length)
def jz(p:Pj)(q:Qu)(pl:Pl)(k:Nat):Nat:=(List.range k).foldl (gA p q pl) 0
def iF(p:Pj)(q:Qu)(pl:Pl):Nat:=jz p q pl (ct p.cJ)
theorem mA(p:Pj)(q:Qu)(pl:Pl)(k:Nat):jz p q pl (k+1)=gA p q pl (jz p q pl k) k:=by simp[jz,List.range_succ]
theorem lG(p:Pj)(q:Qu)(pl:Pl):∀k,jz p q pl k<18446744073709551616
 |0=>by simp[jz]
 |k+1=>by
  rw[mA]
  unfold gA
  split
  ·exact lG p q pl k
  ·simp only
   split
   ·split<;>exact jQ _ _
   ·exact jQ _ _
theorem we{S:List (List Sg)}{k:Nat}(h:¬k<ct S):bZ S k=[]:=by unfold bZ;rw[if_pos (.inr (by omega))]
theorem wS{S:List (List Sg)}{k:Nat}(h:k<ct S):bZ S k=S.map (fun l=>eP l k)∧0<S.length:=by
 unfold bZ
 rw[if_neg (by omega)]
 refine⟨rfl,?_⟩
 cases S with
 |nil=>simp[ct]at h
 |cons=>simp
theorem mz(p:Pj)(hp:p.Ok)(q:Qu)(hq:q.Ok)(pl:Pl)(hpl:pl.order.length≤1000)(hrep:jU pl.rep)(H:aa):ag Tryz.prog 17 [p.av,q.av,pl.av] H (.ok (du (iF p q pl))) H:=by
 unfold iF
 have hlt:=lG p q pl
 have hst:=fun k=>mA p q pl k
 have h0:jz p q pl 0=0:=rfl
 have hgn:=fun k=>we (S:=p.cJ) (k:=k)
 have hgp:=fun k=>wS (S:=p.cJ) (k:=k)
 have hgd:=fun k (hk:jU k) H=>nJ p hp k hk H
 have hcs:∀sum k,gA p q pl sum k=if nm p (bZ p.cJ k) (ea q pl)then sum else if pl.range then(if pl.late then fQ (fQ sum pl.rep.toNat) (oN p q (ea q pl) (bZ p.cJ k) ((bZ p.cJ k).getD 0 uY).rows)else fQ sum (kv p q ((bZ p.cJ k).getD 0 uY).rows))else fQ (if pl.late then fQ (fQ sum pl.rep.toNat) (oN p q (ea q pl) (bZ p.cJ k) ((bZ p.cJ k).getD 0 uY).rows)else fQ sum (kv p q ((bZ p.cJ k).getD 0 uY).rows)) (so ((bZ p.cJ k).getD 0 uY).rows q.bu.length):=fun sum k=>by
  unfold gA;split<;>rfl
 have hzr:=fun(k:Int) z (h:z∈bZ p.cJ k)=>hp.eQ h
 generalize jz p q pl=F at*
 generalize gA p q pl=G at*
 have hal:(ea q pl).length≤1000:=by
  unfold ea
  have:=hq.pred
  split
  ·exact Nat.le_trans (qJ _ _) hpl
  ·omega
 have hpr:=fun k (hk:jU k) H=>vo p hp (ea q pl) false (by omega) k hk H
 have hea:=fun rows (hr:rows<18446744073709551616) H=>wi p hp.aW q hq rows hr H
 have hla:=fun Z (hZ:∀z∈Z,z.rows≤1000000000) (hZl:Z.length≤1000000000) rows (hr:rows<18446744073709551616) H=>zI p hp.aW q hq (ea q pl) false (by omega) Z hZ hZl rows hr H
 have hor:=fun H=>ui q.pred pl.order false false H (by have:=hq.pred;omega) (by omega)
 have hA:ea q pl=if pl.late then fy q.pred pl.order else q.pred:=rfl
 have hgs:=hp.many
 have hsl:=hp.len
 have hjl:=hq.bu
 generalize ea q pl=A at*
 obtain⟨pb,hpb⟩:∃pb,pb=az.box 49 4 0 1 [.d (.list false (ints p.aW)),.d (.list false (ints p.key)),iA p.rows,.d (.list false (cl p.cJ))]:=⟨_,rfl⟩
 obtain⟨qb,hqb⟩:∃qb,qb=az.box 31 8 0 1 [.d q.table,.d (.list false (q.pred.map Atom.enc)),.d (.list false (q.bu.map pk)),.d (.list false (ints q.aW)),.d q.group,.d (.list false (q.cT.map pD)),.d q.order,.d q.xG]:=⟨_,rfl⟩
 obtain⟨proj,late,order,rep,range⟩:=pl
 simp only at*
 refine ag.aj (hint:=(fun _=>false)) Tryz.func17 (by kernel_rfl) rfl [6] (by kernel_rfl) (by decide) (by simp[Tryz.ntmps17]) ?_
 rw[Tryz.ntmps17]
 simp -implicitDefEqProofs only[↓reduceIte,go_sem,ab,Nat.reduceAdd,Nat.reduceLT,Nat.reduceLeDiff,Nat.reduceEqDiff,Pj.av,Pj.ds,Qu.av,Qu.ds,Pl.av,Pl.ds]
 rw[←hqb,←hpb]
 refine gP (fun s H'=>H'=H++[pb,qb,.box 43 5 0 1 [iA proj,bA late,.d (.list false (ints order)),iA rep,bA range]]∧s 3= .ptr H.length 0 0 0∧s 4= .ptr (H.length+1) 0 0 0∧s 5= .ptr (H.length+2) 0 0 0∧s 7= .d (.list false (A.map Atom.enc))) rfl ?_ ?_
 ·cases late
  ·simp -implicitDefEqProofs only[↓reduceIte,go_sem,Nat.reduceLT,Nat.reduceEqDiff,hqb,hpb,hA,Bool.false_eq_true]
  ·simp -implicitDefEqProofs only[↓reduceIte,go_sem,ab,Nat.reduceAdd,Nat.reduceLT,Nat.reduceLeDiff,Nat.reduceEqDiff,hqb]
   refine ae.ok (hor _) ?_
   simp -implicitDefEqProofs only[↓reduceIte,go_sem,Nat.reduceLT,Nat.reduceEqDiff,hA,hpb,hqb,iD]
 rintro s H' ⟨rfl,t3,t4,t5,t7⟩
 obtain⟨lb,hlb⟩:∃lb,lb=az.box 43 5 0 1 [iA proj,bA late,.d (.list false (ints order)),iA rep,bA range]:=⟨_,rfl⟩
 rw[←hlb]
 simp -implicitDefEqProofs only[go_sem]
 refine bk Tryz.prog _ _ _ (fun k s H'=>k≤ct p.cJ∧H'=H++[pb,qb,lb]∧s 3= .ptr H.length 0 0 0∧s 4= .ptr (H.length+1) 0 0 0∧s 5= .ptr (H.length+2) 0 0 0∧s 7= .d (.list false (A.map Atom.enc))∧s 8=du (F k)∧s 9=iA k) (fun k=>ct p.cJ-k) 0 (al.refl _ _) ?_ ?_
 ·refine⟨Nat.zero_le _,rfl,?_⟩
  simp -implicitDefEqProofs only[↓reduceIte,go_sem,Nat.reduceLT,Nat.reduceEqDiff,t3,t4,t5,t7,h0]
  rfl
 rintro k s H' ⟨hk,rfl,t3,t4,t5,t7,t8,t9⟩
 have hki:jU k:=⟨by omega,by omega⟩
 simp -implicitDefEqProofs only[↓reduceIte,go_sem,ab,Nat.reduceAdd,Nat.reduceLT,Nat.reduceEqDiff,t3,t9,hpb]
 refine ae.ok (hgd k hki _) ?_
 by_cases hkg:k<ct p.cJ
 case neg=>
  obtain rfl:k=ct p.cJ:=by omega
  simp -implicitDefEqProofs only[↓reduceIte,go_sem,Nat.reduceLT,Nat.reduceEqDiff,hgn _ hkg,List.map_nil,List.length_nil,t8]
  refine au.ret ?_
  simp -implicitDefEqProofs only[↓reduceIte,go_sem,Nat.reduceLT]
 obtain⟨hZe,hS⟩:=hgp k hkg
 have hpk:=hpr k hki
 have hsk:=hst k
 rw[hcs]at hsk
 have hZr:=hzr k
 have hZl:(bZ p.cJ k).length=p.cJ.length:=by rw[hZe];simp
 have hFk:=hlt k
 clear hZe
 generalize bZ p.cJ k=Z at*
 generalize nm p Z A=pr at*
 simp -implicitDefEqProofs only[↓reduceIte,go_sem,ab,Nat.reduceAdd,Nat.reduceLT,Nat.reduceEqDiff,List.length_map,hZl,show ¬((p.cJ.length:Int)=0) by omega,t3,t7,t9]
 refine ae.ok (hpk _) ?_
 cases pr with
 |true=>
  simp -implicitDefEqProofs only[↓reduceIte,go_sem,Nat.reduceLT,Nat.reduceEqDiff,t9]
  rw[←hpb]
  refine⟨_,_,k+1,al.refl _ _,⟨hkg,rfl,?_⟩,by omega⟩
  rw[hsk,if_pos rfl]
  simp -implicitDefEqProofs only[↓reduceIte,go_sem,Nat.reduceLT,Nat.reduceEqDiff,t3,t4,t5,t7,t8,wrap64_in ((k:Int)+1) (by omega) (by omega)]
 |false=>
 rw[if_neg (by simp)]at hsk
 have hz:(Z.map Zn.ds)[0]?=some Z[0].ds:=by simp[show 0<Z.length by omega]
 have hzd:Z.getD 0 uY=Z[0]:=by simp[show 0<Z.length by omega]
 have hz1:=hZr Z[0] (List.getElem_mem (by omega))
 rw[hzd]at hsk
 have hea:=hea Z[0].rows (by omega)
 have hla:=hla Z hZr (by omega) Z[0].rows (by omega)
 have hel:kv p q Z[0].rows<18446744073709551616:=qO _ _
 have hll:oN p q A Z Z[0].rows<18446744073709551616:=jQ _ _
 generalize Z[0]=z at*
 have hwr:IntKind.u64.wrap (max (z.rows:Int) 0)=(z.rows:Int):=by rw[cP _ (by omega) (by omega)];omega
 generalize hs1:(if late=true then fQ (fQ (F k) rep.toNat) (oN p q A Z z.rows)else fQ (F k) (kv p q z.rows))=s1 at*
 have hs1l:s1<18446744073709551616:=by rw[←hs1];split<;>exact jQ _ _
 simp -implicitDefEqProofs only[↓reduceIte,go_sem,ab,Nat.reduceAdd,Nat.reduceLT,Nat.reduceLeDiff,Nat.reduceEqDiff,Int.reduceLE,Int.reduceToNat,hz,Zn.ds,iD,hwr,t5,hlb]
 rw[←hlb,←hpb]
 refine gP (fun s H'=>H'=H++[pb,qb,lb]∧s 3= .ptr H.length 0 0 0∧s 4= .ptr (H.length+1) 0 0 0∧s 5= .ptr (H.length+2) 0 0 0∧s 7= .d (.list false (A.map Atom.enc))∧s 8=du s1∧s 9=iA k∧s 11=du z.rows) rfl ?_ ?_
 ·cases late
  case' false=>
   rw[if_neg (by simp)]at hs1
   simp -implicitDefEqProofs only[↓reduceIte,go_sem,ab,Nat.reduceAdd,Nat.reduceLT,Nat.reduceEqDiff,t8,t3,t4,hqb,hpb]
   refine ae.ok (hea _) ?_
   simp -implicitDefEqProofs only[↓reduceIte,go_sem,Nat.reduceLT,Nat.reduceEqDiff]
   refine ae.ok (gJ _ _ hFk hel _) ?_
   simp -implicitDefEqProofs only[↓reduceIte,go_sem,Nat.reduceLT,Nat.reduceEqDiff,hs1]
  case' true=>
   have hrw:IntKind.u64.wrap (max rep 0)=(rep.toNat:Int):=by rw[cP _ (by omega) (by have:=hrep.2;omega)];omega
   rw[if_pos rfl]at hs1
   simp -implicitDefEqProofs only[go_sem]
   refine aQ K.mixed (by kernel_rfl) ?_
   simp -implicitDefEqProofs only[↓reduceIte,go_sem,ab,Nat.reduceAdd,Nat.reduceLT,Nat.reduceLeDiff,Nat.reduceEqDiff,t5,t8,hlb,hrw]
   refine ae.ok (gJ _ _ hFk (by have:=hrep.2;omega) _) ?_
   simp -implicitDefEqProofs only[↓reduceIte,go_sem,ab,Nat.reduceAdd,Nat.reduceLT,Nat.reduceEqDiff,t3,t4,t7,hqb,hpb]
   refine ae.ok (hla _) ?_
   simp -implicitDefEqProofs only[↓reduceIte,go_sem,Nat.reduceLT,Nat.reduceEqDiff]
   refine ae.ok (gJ _ _ (jQ _ _) hll _) ?_
   simp -implicitDefEqProofs only[↓reduceIte,go_sem,Nat.reduceLT,Nat.reduceEqDiff,hs1]
  all_goals simp -implicitDefEqProofs only[go_sem,t3,t4,t5,t7,t9,hqb,hpb,hlb]
 rintro s H' ⟨rfl,t3,t4,t5,t7,t8,t9,t11⟩
 simp -implicitDefEqProofs only[↓reduceIte,go_sem,ab,Nat.reduceAdd,Nat.reduceLT,t5,hlb]
 rw[←hlb]
 cases range
 case' true=>
  rw[if_pos rfl]at hsk
  simp -implicitDefEqProofs only[↓reduceIte,go_sem,Nat.reduceLT,Nat.reduceEqDiff,t9]
 case' false=>
  rw[if_neg (by simp)]at hsk
  simp -implicitDefEqProofs only[↓reduceIte,go_sem,ab,Nat.reduceAdd,Nat.reduceLT,Nat.reduceLeDiff,Nat.reduceEqDiff,t8,t11,t4,hqb,List.length_map,cP (q.bu.length:Int) (by omega) (by omega)]
  refine ae.ok (oK _ _ (by omega) (by omega) _) ?_
  simp -implicitDefEqProofs only[↓reduceIte,go_sem,Nat.reduceLT,Nat.reduceEqDiff]
  refine ae.ok (gJ _ _ hs1l (qO _ _) _) ?_
  simp -implicitDefEqProofs only[↓reduceIte,go_sem,Nat.reduceLT,Nat.reduceEqDiff,t9]
  rw[←hqb]
 all_goals
  refine⟨_,_,k+1,al.refl _ _,⟨hkg,rfl,?_⟩,by omega⟩
  simp -implicitDefEqProofs only[↓reduceIte,go_sem,Nat.reduceLT,Nat.reduceEqDiff,t3,t4,t5,t7,t8,hsk,wrap64_in ((k:Int)+1) (by omega) (by omega)]
def eA(o:List Int):List D:=[.list false (ints o)]
def HP(f:Int)(o:List Int):List Int:=o.map fun x=>if f≤x then x+1 else x
def dp:Nat→List (List Int)
 |0=>[[]]
 |n+1=>(upto (n+1)).flatMap fun f=>(dp n).map fun o=>f::HP f o
def bN(n:Nat):List (List Int):=if 4<n then[upto n]else dp n
theorem po:∀n,n≤4→(dp n).length≤24∧∀o∈dp n,o.length=n∧∀x∈o,0≤x∧x<4:=by decide
def Cg:Nat→Int
 |0=>1
 |k+1=>Cg k* (k+2)
def FZ(n:Nat):Nat:=if 4<n then 0 else n-1
theorem rl:∀n,n≤4→(dp n).Nodup∧((dp n).length:Int)=Cg (n-1):=by decide
theorem eZ(n:Nat):(bN n).Nodup∧((bN n).length:Int)=Cg (FZ n)∧(bN n).length≤24∧∀o∈bN n,o.length=n:=by
 unfold bN FZ
 by_cases h:4<n
 ·rw[if_pos h,if_pos h]
  refine⟨by simp,by simp[Cg],by simp,fun o ho=>?_⟩
  rw[List.mem_singleton.1 ho,fD]
 ·rw[if_neg h,if_neg h]
  obtain⟨h1,h2⟩:=rl n (by omega)
  obtain⟨h3,h4⟩:=po n (by omega)
  exact⟨h1,h2,h3,fun o ho=>(h4 o ho).1⟩
def xk(n:Nat):Nat→List Int→List (List Int)
 |0,o=>[o]
 |k+1,o=>(upto n).flatMap fun i=>if i∈o then[]else xk n k (o++[i])
theorem En:∀n,n≤4→xk n n []=dp n:=by decide+kernel
def dE(H:aa)(n:Nat)(L:List (List Int))(ver:Nat)(T:aa):aa:=
 H++ .box 3 1 0 1 [iA n]:: .box 65 1 0 1 [.sl (H.length+3) ver 0 L.length]:: .box 98 1 0 1 [.fn 44 [.ptr H.length 0 0 0,.ptr (H.length+1) 0 0 0,.ptr (H.length+2) 0 0 0]]:: .arr 23 1 ver (L.map eA)::T
theorem Ae(n:Nat)(o:List Int)(ho:o.length=n)(hn:0<n)(hn4:n≤4)(L:List (List Int))(hL:L.length≤100000)(nn:Bool)(H:aa)(ver:Nat)(T:aa):
  ag Tryz.prog 44 [.d (.list nn (ints o)),.ptr H.length 0 0 0,.ptr (H.length+1) 0 0 0,.ptr (H.length+2) 0 0 0] (dE H n L ver T) (.ok (.aZ [])) (dE H n (L++[o]) (ver+1) T):=by
 have hm:(L.map eA).length=L.length:=by simp
 have hlen:(((o.length:Nat):Int)=(n:Int))=True:=eq_true (by omega)
 have hfin:dE H n (L++[o]) (ver+1) T=H++ .box 3 1 0 1 [iA n]:: .box 65 1 0 1 [.sl (H.length+3) (ver+1) 0 (L.length+1)]:: .box 98 1 0 1 [.fn 44 [.ptr H.length 0 0 0,.ptr (H.length+1) 0 0 0,.ptr (H.length+2) 0 0 0]]:: .arr 23 1 (ver+1) (L.map eA++[[D.list false (ints o)]])::T:=by
  simp[dE,eA]
 rw[hfin]
 refine ag.aj (hint:=(fun _=>false)) Tryz.func44 (by kernel_rfl) rfl [] (by kernel_rfl) (by decide) (by simp[Tryz.ntmps44]) ?_
 rw[Tryz.ntmps44]
 simp -implicitDefEqProofs only[↓reduceIte,go_sem,ab,Nat.reduceLT,Nat.reduceEqDiff,dE,ay,ho]
 refine gX 4 K.mixed (by kernel_rfl) (by kernel_rfl) ?_
 simp -implicitDefEqProofs only[↓reduceIte,go_sem,ab,Nat.reduceLT,Nat.reduceEqDiff,reduceCtorEq]
 refine ae.ok (dI o nn _ (by omega) (by omega)) ?_
 simp -implicitDefEqProofs only[↓reduceIte,go_sem,an,Nat.reduceLT,Nat.reduceLeDiff,Nat.reduceEqDiff,hm,List.length_append]
 exact⟨by omega,by omega,_,al.refl _ _,rfl⟩
theorem pa(l:List Int)(n1:Bool)(H:aa)(h0:0<l.length)(hl:l.length≤1000000000000):ag Tryz.prog 45 [.d (.list n1 (ints l))] H (.ok (.sl H.length 1 0 l.length)) (H++[.arr 3 1 1 (ints l)]):=by
 have e1:=ll h0
 refine ag.aj (hint:=(fun _=>false)) Tryz.func45 (by kernel_rfl) rfl [2] (by kernel_rfl) (by decide) (by simp[Tryz.ntmps45]) ?_
 rw[Tryz.ntmps45]
 simp -implicitDefEqProofs only[↓reduceIte,go_sem,Nat.reduceLT,Nat.reduceEqDiff,reduceCtorEq,e1,nH,ay]
 refine⟨by omega,by omega,_,al.refl _ _,?_⟩
 simp -implicitDefEqProofs only[↓reduceIte,go_sem,Nat.reduceLT]
theorem xY(H:aa)(n:Nat)(L L':List (List Int))(v v':Nat)(T X:aa)(s:Nat→AV):al (dE H n L v T) s (dE H n L' v' (T++X)) (fun t=>nE (dE H n L' v' (T++X)) (H.length+(4+T.length)) (s t)) (dE H n L' v' T):=by
 have hl0:(dE H n L v T).length=H.length+(4+T.length):=by unfold dE;simp only[List.length_append,List.length_cons];omega
 have hl1:(dE H n L' v' (T++X)).length=H.length+(4+T.length)+X.length:=by unfold dE;simp only[List.length_append,List.length_cons];omega
 have key:=al.sC (H0:=dE H n L v T) s (dE H n L' v' (T++X)) (H.length+(4+T.length)) (by omega) (by omega) ?_
 ·have e:(dE H n L' v' (T++X)).take (H.length+(4+T.length))=dE H n L' v' T:=by
   unfold dE
   rw[List.take_length_add_append,show 4+T.length=T.length+4 from by omega]
   simp
  rwa[e]at key
 ·intro i o hi ho
  rcases Nat.lt_or_ge i H.length with h|h
  ·left
   unfold dE at ho⊢
   rw[List.getElem?_append_left h]at ho⊢
   exact ho
  ·obtain⟨j,rfl⟩:=Nat.exists_eq_add_of_le h
   unfold dE at ho⊢
   rw[List.getElem?_append_right (by omega),Nat.add_sub_cancel_left]at ho⊢
   rcases j with _|_|_|_|j
   ·left;exact ho
   ·right
    simp at ho
    subst ho
    rw[qt]
    simp only[List.all_cons,qm,List.all_nil,Bool.and_true,decide_eq_true_eq]
    omega
   ·left;exact ho
   ·right
    simp at ho
    subst ho
    rfl
   ·left
    simp only[List.getElem?_cons_succ]at ho⊢
    rwa[List.getElem?_append_left (by omega)]at ho
def cY(H:aa)(n:Nat)(M:List (List Int))(T:aa):aa:=dE H n M M.length T
def bV(n k:Nat)(o:List Int)(j:Nat):List (List Int):=(upto j).flatMap fun i=>if i∈o then[]else xk n k (o++[i])
theorem ic(n k:Nat)(o:List Int)(j:Nat):bV n k o (j+1)=bV n k o j++if(j:Int)∈o then[]else xk n k (o++[(j:Int)]):=by simp[bV,lI,List.flatMap_append]
theorem yA(n k:Nat)(hn4:n≤4)(o:List Int)(ho:o.length+(k+1)=n)(h0:0<o.length)(nn:Bool)(H:aa)(b:Nat)
  (ih:∀(i:Int) (L:List (List Int)) (T:aa),L.length≤b→ag Tryz.prog 44 [.d (.list false (ints (o++[i]))),.ptr H.length 0 0 0,.ptr (H.length+1) 0 0 0,.ptr (H.length+2) 0 0 0] (cY H n L T) (.ok (.aZ [])) (cY H n (L++xk n k (o++[i])) T))
  (L:List (List Int)) (hL:∀j,j<n→(L++bV n k o j).length≤b) (T:aa):
  ag Tryz.prog 44 [.d (.list nn (ints o)),.ptr H.length 0 0 0,.ptr (H.length+1) 0 0 0,.ptr (H.length+2) 0 0 0] (cY H n L T) (.ok (.aZ [])) (cY H n (L++bV n k o n) T):=by
 have c1:(((o.length:Nat):Int)=(n:Int))=False:=eq_false (by omega)
 have c2:(o.length=n)=False:=eq_false (by omega)
 generalize hE1:cY H n (L++bV n k o n) T=E1
 refine ag.aj (hint:=(fun _=>false)) Tryz.func44 (by kernel_rfl) rfl [] (by kernel_rfl) (by decide) (by simp[Tryz.ntmps44]) ?_
 rw[Tryz.ntmps44]
 simp -implicitDefEqProofs only[↓reduceIte,go_sem,ab,Nat.reduceLT,Nat.reduceEqDiff,cY,dE,ay,c1]
 refine aO (fun j s H'=>H'=cY H n (L++bV n k o j) T∧s 0= .d (.list nn (ints o))∧s 1= .ptr H.length 0 0 0∧s 2= .ptr (H.length+1) 0 0 0∧s 3= .ptr (H.length+2) 0 0 0∧s 15=iA n∧s 16=iA j) n (by omega) (al.refl _ _) ?_ ?_ ?_
 ·refine⟨?_,?_⟩
  ·simp[bV,upto,cY,dE]
  ·simp -implicitDefEqProofs only[↓reduceIte,go_sem,Nat.reduceLT,Nat.reduceEqDiff,reduceCtorEq]
 ·rintro j s H' hj hw ⟨rfl,t0,t1,t2,t3,t15,t16⟩
  simp -implicitDefEqProofs only[↓reduceIte,go_sem,Nat.reduceLT,Nat.reduceEqDiff,reduceCtorEq,t0,t15,t16,hj]
  refine ae.ok (dS o j nn _ (by omega)) ?_
  have hLj:=hL j hj
  have hsc:=ic n k o j
  by_cases hin:(j:Int)∈o
  ·rw[if_pos hin,List.append_nil]at hsc
   simp -implicitDefEqProofs only[↓reduceIte,go_sem,Nat.reduceLT,Nat.reduceEqDiff,hin,t16]
   refine c7.same ⟨by rw[hsc],?_⟩
   simp -implicitDefEqProofs only[↓reduceIte,go_sem,Nat.reduceLT,Nat.reduceEqDiff,reduceCtorEq,t0,t1,t2,t3,t15,hw]
  ·rw[if_neg hin]at hsc
   have hLL:(L++bV n k o j++xk n k (o++[(j:Int)]))=L++bV n k o (j+1):=by rw[hsc,List.append_assoc]
   have hd:=ih j (L++bV n k o j) (T++[.arr 3 1 3 []]) hLj
   rw[hLL]at hd
   have h3:(cY H n (L++bV n k o j) T)[H.length+2]?=some (.box 98 1 0 1 [.fn 44 [.ptr H.length 0 0 0,.ptr (H.length+1) 0 0 0,.ptr (H.length+2) 0 0 0]]):=by simp[cY,dE]
   have hT:cY H n (L++bV n k o j) (T++[.arr 3 1 3 []])=cY H n (L++bV n k o j) T++[.arr 3 1 3 []]:=by simp[cY,dE]
   rw[hT]at hd
   generalize cY H n (L++bV n k o j) T=E at*
   have hlt:H.length+2<E.length:=(List.getElem?_eq_some_iff.1 h3).1
   simp -implicitDefEqProofs only[↓reduceIte,go_sem,Nat.reduceLT,hin]
   refine qa [false,false,true,false,false,true] K.mixed (by kernel_rfl) (by kernel_rfl) (by kernel_rfl) ?_
   simp -implicitDefEqProofs only[↓reduceIte,go_sem,ab,Nat.reduceLT,Nat.reduceEqDiff,reduceCtorEq,t0,t3,h3]
   refine ae.ok (pa o nn E h0 (by omega)) ?_
   simp -implicitDefEqProofs only[↓reduceIte,go_sem,Nat.reduceAdd,Nat.reduceLT,Nat.reduceLeDiff,Nat.reduceEqDiff,ay,gO]
   refine⟨Ext.app _ _,by omega,by omega,Ext.app _ _,?_⟩
   have e2:(E++[az.arr 3 1 2 (ints (o++[(j:Int)]))]).set E.length (.arr 3 1 3 [])=E++[.arr 3 1 3 []]:=by simp
   refine ae.nE [] (e:=3) (k:=1) (ver:=2) (es:=ints (o++[(j:Int)])) (by simp) (by rw[List.drop_zero,List.take_of_length_le (by rw[ay];simp),e2];exact hd) ?_
   simp -implicitDefEqProofs only[↓reduceIte,go_sem,Nat.reduceLT,Nat.reduceEqDiff,t16]
   refine⟨_,_,xY H n L (L++bV n k o (j+1)) L.length (L++bV n k o (j+1)).length T [.arr 3 1 3 []] _,rfl,?_⟩
   have q1:H.length<H.length+(4+T.length):=by omega
   have q2:H.length+1<H.length+(4+T.length):=by omega
   have q3:H.length+2<H.length+(4+T.length):=by omega
   simp -implicitDefEqProofs only[↓reduceIte,go_sem,Nat.reduceLT,Nat.reduceEqDiff,reduceCtorEq,t0,t1,t2,t3,t15,hw,q1,q2,q3]
 ·rintro s H' ⟨rfl,t0,t1,t2,t3,t15,t16⟩
  rw[hE1]
  simp -implicitDefEqProofs only[↓reduceIte,go_sem,Nat.reduceLT,t15,t16]
  exact⟨_,al.refl _ _,rfl⟩
theorem ym(n k:Nat)(hn4:n≤4)(ho:k+1=n)(H:aa)(b:Nat)
  (ih:∀(i:Int) (L:List (List Int)) (T:aa),L.length≤b→ag Tryz.prog 44 [.d (.list false (ints [i])),.ptr H.length 0 0 0,.ptr (H.length+1) 0 0 0,.ptr (H.length+2) 0 0 0] (cY H n L T) (.ok (.aZ [])) (cY H n (L++xk n k [i]) T))
  (L:List (List Int)) (hL:∀j,j<n→(L++bV n k [] j).length≤b) (T:aa):
  ag Tryz.prog 44 [.d (.v (.slice none 0 0)),.ptr H.length 0 0 0,.ptr (H.length+1) 0 0 0,.ptr (H.length+2) 0 0 0] (cY H n L T) (.ok (.aZ [])) (cY H n (L++bV n k [] n) T):=by
 have c1:((0:Int)=(n:Int))=False:=eq_false (by omega)
 have c2:(0=n)=False:=eq_false (by omega)
 generalize hE1:cY H n (L++bV n k [] n) T=E1
 refine ag.aj (hint:=(fun _=>false)) Tryz.func44 (by kernel_rfl) rfl [] (by kernel_rfl) (by decide) (by simp[Tryz.ntmps44]) ?_
 rw[Tryz.ntmps44]
 simp -implicitDefEqProofs only[↓reduceIte,go_sem,ab,Nat.reduceLT,Nat.reduceEqDiff,cY,dE,c1]
 refine aO (fun j s H'=>H'=cY H n (L++bV n k [] j) T∧s 0= .d (.v (.slice none 0 0))∧s 1= .ptr H.length 0 0 0∧s 2= .ptr (H.length+1) 0 0 0∧s 3= .ptr (H.length+2) 0 0 0∧s 15=iA n∧s 16=iA j) n (by omega) (al.refl _ _) ?_ ?_ ?_
 ·refine⟨?_,?_⟩
  ·simp[bV,upto,cY,dE]
  ·simp -implicitDefEqProofs only[↓reduceIte,go_sem,Nat.reduceLT,Nat.reduceEqDiff,reduceCtorEq]
 ·rintro j s H' hj hw ⟨rfl,t0,t1,t2,t3,t15,t16⟩
  simp -implicitDefEqProofs only[↓reduceIte,go_sem,Nat.reduceLT,Nat.reduceEqDiff,reduceCtorEq,t0,t15,t16,hj]
  refine ae.sub (.cons .nil (.cons (.refl _) .nil)) (dS [] j false _ (by simp)) ?_
  have hLj:=hL j hj
  have hsc:=ic n k [] j
  have hin:¬(j:Int)∈([]:List Int):=by simp
  ·rw[if_neg hin]at hsc
   have hLL:(L++bV n k [] j++xk n k [(j:Int)])=L++bV n k [] (j+1):=by rw[hsc,List.append_assoc];rfl
   have hd:=ih j (L++bV n k [] j) (T++[.arr 3 1 2 []]) hLj
   rw[hLL]at hd
   have h3:(cY H n (L++bV n k [] j) T)[H.length+2]?=some (.box 98 1 0 1 [.fn 44 [.ptr H.length 0 0 0,.ptr (H.length+1) 0 0 0,.ptr (H.length+2) 0 0 0]]):=by simp[cY,dE]
   have hT:cY H n (L++bV n k [] j) (T++[.arr 3 1 2 []])=cY H n (L++bV n k [] j) T++[.arr 3 1 2 []]:=by simp[cY,dE]
   rw[hT]at hd
   generalize cY H n (L++bV n k [] j) T=E at*
   have hlt:H.length+2<E.length:=(List.getElem?_eq_some_iff.1 h3).1
   simp -implicitDefEqProofs only[↓reduceIte,go_sem,Nat.reduceLT,List.not_mem_nil]
   refine qa [false,false,true,false,false,true] K.mixed (by kernel_rfl) (by kernel_rfl) (by kernel_rfl) ?_
   simp -implicitDefEqProofs only[↓reduceIte,go_sem,ab,Nat.reduceLT,Nat.reduceEqDiff,reduceCtorEq,t0,t3,h3]
   refine ae.ok (cE E) ?_
   simp -implicitDefEqProofs only[↓reduceIte,go_sem,Nat.reduceLT,Nat.reduceLeDiff,Nat.reduceEqDiff]
   refine⟨Ext.refl _,Ext.app _ _,?_⟩
   have e2:(E++[az.arr 3 1 1 [[.v (.int .i64 (j:Int))]]]).set E.length (.arr 3 1 2 [])=E++[.arr 3 1 2 []]:=by simp
   refine ae.nE [] (e:=3) (k:=1) (ver:=1) (es:=[[.v (.int .i64 (j:Int))]]) (by simp) (by rw[e2];exact hd) ?_
   simp -implicitDefEqProofs only[↓reduceIte,go_sem,Nat.reduceLT,Nat.reduceEqDiff,t16]
   refine⟨_,_,xY H n L (L++bV n k [] (j+1)) L.length (L++bV n k [] (j+1)).length T [.arr 3 1 2 []] _,rfl,?_⟩
   have q1:H.length<H.length+(4+T.length):=by omega
   have q2:H.length+1<H.length+(4+T.length):=by omega
   have q3:H.length+2<H.length+(4+T.length):=by omega
   simp -implicitDefEqProofs only[↓reduceIte,go_sem,Nat.reduceLT,Nat.reduceEqDiff,reduceCtorEq,t0,t1,t2,t3,t15,hw,q1,q2,q3]
 ·rintro s H' ⟨rfl,t0,t1,t2,t3,t15,t16⟩
  rw[hE1]
  simp -implicitDefEqProofs only[↓reduceIte,go_sem,Nat.reduceLT,t15,t16]
  exact⟨_,al.refl _ _,rfl⟩
theorem xV(n:Nat)(hn:n≤4):∀(k:Nat) (o:List Int),(xk n k o).length≤4^k
 |0,o=>by simp[xk]
 |k+1,o=>by
  have:∀j,(bV n k o j).length≤j* 4^k:=by
   intro j
   induction j with
   |zero=>simp[bV,upto]
   |succ j ih=>
    rw[ic,List.length_append,Nat.succ_mul]
    have:=xV n hn k (o++[(j:Int)])
    split
    ·simp;omega
    ·omega
  have h:=this n
  have e:xk n (k+1) o=bV n k o n:=rfl
  rw[e,Nat.pow_succ,Nat.mul_comm]
  exact Nat.le_trans h (Nat.mul_le_mul_right _ hn)
theorem qC(n:Nat)(hn:n≤4)(k:Nat)(o:List Int):∀j,(bV n k o j).length≤j* 4^k:=by
 intro j
 induction j with
 |zero=>simp[bV,upto]
 |succ j ih=>
  rw[ic,List.length_append,Nat.succ_mul]
  have:=xV n hn k (o++[(j:Int)])
  split
  ·simp;omega
  ·omega
theorem qD(n:Nat)(hn:0<n)(hn4:n≤4)(H:aa):∀(k:Nat) (o:List Int) (nn:Bool) (L:List (List Int)) (T:aa),o.length+k=n→0<o.length→L.length≤100000-4^k→k≤4→
  ag Tryz.prog 44 [.d (.list nn (ints o)),.ptr H.length 0 0 0,.ptr (H.length+1) 0 0 0,.ptr (H.length+2) 0 0 0] (cY H n L T) (.ok (.aZ [])) (cY H n (L++xk n k o) T)
 |0,o,nn,L,T,ho,h0,hL,_=>by
  have:=Ae n o (by omega) hn hn4 L (by omega) nn H L.length T
  have e:(L++xk n 0 o).length=L.length+1:=by simp[xk]
  unfold cY
  rw[e]
  exact this
 |k+1,o,nn,L,T,ho,h0,hL,hk=>by
  have hp:4^k≤256:=by
   have:k≤4:=by omega
   rcases k with _|_|_|_|_|k<;>first|decide|omega
  refine yA n k hn4 o ho h0 nn H (100000-4^k) (fun i L T hL=>qD n hn hn4 H k (o++[i]) false L T (by simp;omega) (by simp) hL (by omega)) L (fun j hj=>?_) T
  have:=qC n hn4 k o j
  have h2:j* 4^k≤3* 4^k:=Nat.mul_le_mul_right _ (by omega)
  rw[Nat.pow_succ]at hL
  rw[List.length_append]
  omega
theorem yC(n:Nat)(hn:0<n)(hn4:n≤4)(H T:aa):
  ag Tryz.prog 44 [.d (.v (.slice none 0 0)),.ptr H.length 0 0 0,.ptr (H.length+1) 0 0 0,.ptr (H.length+2) 0 0 0] (cY H n [] T) (.ok (.aZ [])) (cY H n (xk n n []) T):=by
 obtain⟨k,rfl⟩:∃k,n=k+1:=⟨n-1,by omega⟩
 have hp:4^k≤64:=by
  have:k≤3:=by omega
  rcases k with _|_|_|_|k<;>first|decide|omega
 refine ym (k+1) k hn4 rfl H (100000-4^k) (fun i L T hL=>qD (k+1) hn hn4 H k [i] false L T (by simp;omega) (by simp) hL (by omega)) [] (fun j hj=>?_) T
 have:=qC (k+1) hn4 k [] j
 have h2:j* 4^k≤4* 4^k:=Nat.mul_le_mul_right _ (by omega)
 rw[List.nil_append]
 omega
theorem mR(n:Nat)(hn:4<n)(hm:n≤1000)(H:aa):ag Tryz.prog 22 [iA n] H (.ok (.d (.list true ([upto n].map eA)))) H:=by
 have c1:((n:Int)<0)=False:=eq_false (by omega)
 have c2:((4:Int)<(n:Int))=True:=eq_true (by omega)
 refine ag.aj (hint:=(fun _=>false)) Tryz.func22 (by kernel_rfl) rfl [2] (by kernel_rfl) (by decide) (by simp[Tryz.ntmps22]) ?_
 rw[Tryz.ntmps22]
 simp -implicitDefEqProofs only[↓reduceIte,go_sem,ab,Nat.reduceLT,Nat.reduceEqDiff,c1,c2]
 refine ae.ok (mG n (by omega) _) ?_
 simp -implicitDefEqProofs only[↓reduceIte,go_sem,Nat.reduceLT,Nat.reduceLeDiff]
 refine au.ret ?_
 simp -implicitDefEqProofs only[↓reduceIte,go_sem,Nat.reduceLT,eA]
theorem iS(n:Nat)(hn:0<n)(hn4:n≤4)(H:aa):ag Tryz.prog 22 [iA n] H (.ok (.d (.list false ((dp n).map eA)))) H:=by
 have c1:((n:Int)<0)=False:=eq_false (by omega)
 have c2:((4:Int)<(n:Int))=False:=eq_false (by omega)
 have c3:(4<n)=False:=eq_false (by omega)
 have hr:=yC n hn hn4 H []
 rw[En n hn4]at hr
 generalize dp n=S at hr⊢
 refine ag.aj (hint:=(fun t=>t==1000008)) Tryz.func22 (by kernel_rfl) rfl [2] (by kernel_rfl) (by decide) (by simp[Tryz.ntmps22]) ?_
 rw[Tryz.ntmps22]
 simp -implicitDefEqProofs only[↓reduceIte,go_sem,ab,an,Nat.reduceAdd,Nat.reduceLT,Nat.reduceEqDiff,Nat.reduceBEq,c1,c2]
 refine⟨_,_,al.dA _ (H++[.box 3 1 0 1 [iA n],.box 65 1 0 1 [.d (.v (.slice none 0 0))],.box 98 1 0 1 [.fn 44 [.ptr H.length 0 0 0,.ptr (H.length+1) 0 0 0,.ptr (H.length+2) 0 0 0]]]) (H.length+1) 65 1 0 1 [.d (.v (.slice none 0 0))] 0 (.d (.v (.slice none 0 0))) 23 1 (by decide) (by simp[]) rfl rfl,?_⟩
 simp -implicitDefEqProofs only[↓reduceIte,go_sem,ab,Nat.reduceAdd,Nat.reduceLT,Nat.reduceEqDiff]
 refine ae.ok (r:= .aZ []) (H':=cY H n S []) (by exact hr) ?_
 simp -implicitDefEqProofs only[↓reduceIte,go_sem,ab,Nat.reduceAdd,Nat.reduceLT,Nat.reduceEqDiff,Nat.reduceBEq,cY,dE]
 refine au.ret ?_
 simp -implicitDefEqProofs only[↓reduceIte,go_sem,Nat.reduceLT,cU]
theorem ag.C8{P:Program}{f:FuncId}{args:List AV}{H H':aa}{b:Bool}(h:ag P f args H (.ok (.d (.list b [[.v (.slice none 0 0)]]))) H'):ag P f args H (.ok (.d (.list b [[.list false []]]))) H':=by
 intro φ N w vals hR hA
 have go:∀e' w',(∃φ' N',Rel H' φ' N' w'∧ar H φ N w H' φ' N' w'∧r9 H' φ' N' w' (.ok (.d (.list b [[.v (.slice none 0 0)]]))) e')→∃φ' N',Rel H' φ' N' w'∧ar H φ N w H' φ' N' w'∧r9 H' φ' N' w' (.ok (.d (.list b [[.list false []]]))) e':=by
  rintro e' w' ⟨φ',N',hR',hS',hE⟩
  refine⟨φ',N',hR',hS',?_⟩
  cases e' with
  |returned v=>
   have hE:RA H' φ' N' w' (.d (.list b [[.v (.slice none 0 0)]])) v:=hE
   show RA H' φ' N' w' (.d (.list b [[.list false []]])) v
   cases hE with
   |d hd=>
    cases hd with
    |list nn es ad cap k c hc hk hcell hd=>
     refine .d (.list b [[.list false []]] ad cap k c hc (fun e he=>?_) (fun i j hi hj=>hcell i j hi hj) fun i hi j hj=>?_)
     ·have:=hk [.v (.slice none 0 0)] (by simp)
      simp at he
      subst he
      simpa using this
     ·have hi0:i=0:=by simp at hi;omega
      subst hi0
      have hj0:j=0:=by simp at hj;omega
      subst hj0
      have:=hd 0 (by simp) 0 (by simp)
      simp only[List.getElem_cons_zero]at this⊢
      generalize c 0 0=u at this⊢
      cases this with
      |v _ hx=>exact .nil none 0 fun _=>rfl
  |panicked ps=>exact hE
  |_=>exact hE
 rcases h φ N w vals hR hA with⟨h5,h6⟩|⟨v,w',h5,h6⟩
 ·exact .inl ⟨h5,h6.mono go⟩
 ·exact .inr ⟨v,w',h5,go _ _ h6⟩
theorem vY(H:aa):ag Tryz.prog 44 [.d (.v (.slice none 0 0)),.ptr H.length 0 0 0,.ptr (H.length+1) 0 0 0,.ptr (H.length+2) 0 0 0] (cY H 0 [] []) (.ok (.aZ []))
  (H++[.box 3 1 0 1 [iA 0],.box 65 1 0 1 [.sl (H.length+3) 1 0 1],.box 98 1 0 1 [.fn 44 [.ptr H.length 0 0 0,.ptr (H.length+1) 0 0 0,.ptr (H.length+2) 0 0 0]],.arr 23 1 1 [[.v (.slice none 0 0)]]]):=by
 refine ag.aj (hint:=(fun _=>false)) Tryz.func44 (by kernel_rfl) rfl [] (by kernel_rfl) (by decide) (by simp[Tryz.ntmps44]) ?_
 rw[Tryz.ntmps44]
 simp -implicitDefEqProofs only[↓reduceIte,go_sem,ab,Nat.reduceLT,Nat.reduceEqDiff,cY,dE,List.map_nil]
 refine gX 4 K.mixed (by kernel_rfl) (by kernel_rfl) ?_
 simp -implicitDefEqProofs only[↓reduceIte,go_sem,ab,Nat.reduceLT,Nat.reduceEqDiff,reduceCtorEq]
 refine ae.ok (cE _) ?_
 simp -implicitDefEqProofs only[↓reduceIte,go_sem,an,Nat.reduceAdd,Nat.reduceLT,Nat.reduceLeDiff,Nat.reduceEqDiff]
 exact⟨_,al.refl _ _,rfl⟩
theorem gI(H:aa):ag Tryz.prog 22 [iA 0] H (.ok (.d (.list false ((dp 0).map eA)))) H:=by
 refine ag.C8 ?_
 have hr:=vY H
 refine ag.aj (hint:=(fun t=>t==1000008)) Tryz.func22 (by kernel_rfl) rfl [2] (by kernel_rfl) (by decide) (by simp[Tryz.ntmps22]) ?_
 rw[Tryz.ntmps22]
 simp -implicitDefEqProofs only[↓reduceIte,go_sem,ab,an,Nat.reduceAdd,Nat.reduceLT,Nat.reduceEqDiff,Nat.reduceBEq,Int.reduceLT]
 refine⟨_,_,al.dA _ (H++[.box 3 1 0 1 [iA 0],.box 65 1 0 1 [.d (.v (.slice none 0 0))],.box 98 1 0 1 [.fn 44 [.ptr H.length 0 0 0,.ptr (H.length+1) 0 0 0,.ptr (H.length+2) 0 0 0]]]) (H.length+1) 65 1 0 1 [.d (.v (.slice none 0 0))] 0 (.d (.v (.slice none 0 0))) 23 1 (by decide) (by simp[]) rfl rfl,?_⟩
 simp -implicitDefEqProofs only[↓reduceIte,go_sem,ab,Nat.reduceAdd,Nat.reduceLT,Nat.reduceEqDiff]
 refine ae.ok (by exact hr) ?_
 simp -implicitDefEqProofs only[↓reduceIte,go_sem,ab,Nat.reduceAdd,Nat.reduceLT,Nat.reduceEqDiff,Nat.reduceBEq]
 refine au.ret ?_
 simp -implicitDefEqProofs only[↓reduceIte,go_sem,Nat.reduceLT]
theorem gL(n:Nat)(hm:n≤1000):∃nn,∀H:aa,ag Tryz.prog 22 [iA n] H (.ok (.d (.list nn ((bN n).map eA)))) H:=by
 unfold bN
 by_cases h4:4<n
 ·rw[if_pos h4];exact⟨true,fun H=>mR n h4 hm H⟩
 ·rw[if_neg h4]
  rcases n with _|n
  ·exact⟨false,fun H=>gI H⟩
  ·exact⟨false,fun H=>iS (n+1) (by omega) (by omega) H⟩
theorem su(H:aa):ag Tryz.prog 8 [] H (.ok (bA true)) H:=by
 have e3:(dp 3).map eA=[eA [0,1,2],eA [0,2,1],eA [1,0,2],eA [1,2,0],eA [2,0,1],eA [2,1,0]]:=by
  rw[show dp 3=[[0,1,2],[0,2,1],[1,0,2],[1,2,0],[2,0,1],[2,1,0]]from by decide];rfl
 have e0:(dp 0).map eA=[[.list false []]]:=rfl
 have h3:=iS 3 (by decide) (by decide) H
 rw[e3]at h3
 refine ag.aj (hint:=(fun _=>false)) Tryz.func8 (by kernel_rfl) rfl [0] (by kernel_rfl) (by decide) (by simp[Tryz.ntmps8]) ?_
 rw[Tryz.ntmps8]
 simp -implicitDefEqProofs only[go_sem]
 refine ae.ok h3 ?_
 simp -implicitDefEqProofs only[↓reduceIte,go_sem,Nat.reduceAdd,Nat.reduceLT,Nat.reduceLeDiff,Nat.reduceEqDiff,Int.reduceLE,Int.reduceToNat,eA]
 refine ae.ok (s5 [1,2,0] [1,2,0] false true H (by decide)) ?_
 simp -implicitDefEqProofs only[↓reduceIte,go_sem,Nat.reduceLT,Nat.reduceEqDiff]
 refine ae.ok (gI H) ?_
 rw[e0]
 simp -implicitDefEqProofs only[↓reduceIte,go_sem,Nat.reduceLT,Nat.reduceEqDiff]
 refine au.aV ?_
 simp -implicitDefEqProofs only[↓reduceIte,go_sem,Nat.reduceLT]
def dB(p:Pj)(q:Qu):Bool:= !(q.gk.any fun c=> !decide (c∈p.aW))&& !(q.pred.any fun a=> !decide (a.fM∈p.aW))
abbrev pB(p:Pj):az:= .box 49 4 0 1 (p.ds.map .d)
abbrev qB(q:Qu):az:= .box 31 8 0 1 (q.ds.map .d)
theorem kM(p:Pj)(hp:p.aW.length≤1000000000)(c:Int)(i:Nat)(H:aa)(hi:H[i]?=some (pB p)):ag Tryz.prog 29 [iA c,.ptr i 0 0 0] H (.ok (bA (!decide (c∈p.aW)))) H:=by
 refine ag.aj (hint:=(fun _=>false)) Tryz.func29 (by kernel_rfl) rfl [3] (by kernel_rfl) (by decide) (by simp[Tryz.ntmps29]) ?_
 rw[Tryz.ntmps29]
 simp -implicitDefEqProofs only[↓reduceIte,go_sem,ab,Nat.reduceAdd,Nat.reduceLT,Nat.reduceLeDiff,Nat.reduceEqDiff,reduceCtorEq,hi,Pj.ds]
 refine ae.ok (dS p.aW c false _ (by omega)) ?_
 simp -implicitDefEqProofs only[↓reduceIte,go_sem,Nat.reduceLT]
 refine au.aV ?_
 simp -implicitDefEqProofs only[↓reduceIte,go_sem,Nat.reduceLT]
theorem r8(p:Pj)(hp:p.aW.length≤1000000000)(a:Atom)(i j:Nat)(H:aa)(hi:H[i]?=some (pB p))(hj:H[j]?=some (.box 81 1 0 1 [.fn 29 [.ptr i 0 0 0]])):
  ag Tryz.prog 33 [a.av,.ptr j 0 0 0] H (.ok (bA (!decide (a.fM∈p.aW)))) H:=by
 have hj2:=fun T=>pO hj T
 refine ag.aj (hint:=(fun _=>false)) Tryz.func33 (by kernel_rfl) rfl [3] (by kernel_rfl) (by decide) (by simp[Tryz.ntmps33]) ?_
 rw[Tryz.ntmps33]
 simp -implicitDefEqProofs only[↓reduceIte,go_sem,ab,Nat.reduceAdd,Nat.reduceLT,Nat.reduceLeDiff,Nat.reduceEqDiff,hj2]
 refine ae.ok (kM p hp a.fM i _ (pO hi _)) ?_
 simp -implicitDefEqProofs only[↓reduceIte,go_sem,Nat.reduceLT]
 refine au.ret ?_
 simp -implicitDefEqProofs only[↓reduceIte,go_sem,Nat.reduceLT]
theorem my(p:Pj)(hp:p.aW.length≤1000000000)(q:Qu)(hq:q.Ok)(H:aa):ag Tryz.prog 13 [p.av,q.av] H (.ok (bA (dB p q))) H:=by
 have hn:=fun H=>ib q hq H
 have hnl:=q.m8 hq
 have hpl:=hq.pred
 unfold dB
 have h1:=fun(n1:Bool) G (hg:G[H.length]?=some (pB p))=>eN q.gk (fun c=> !decide (c∈p.aW)) 29 [.ptr H.length 0 0 0] n1 G (by omega) fun c _=>kM p hp c _ _ hg
 have h2:=fun(n1:Bool) G (hg:G[H.length]?=some (pB p)) (hg2:G[H.length+2]?=some (.box 81 1 0 1 [.fn 29 [.ptr H.length 0 0 0]]))=>fo q.pred (fun a=> !decide (a.fM∈p.aW)) 33 [.ptr (H.length+2) 0 0 0] n1 G (by omega) fun a _=>r8 p hp a H.length _ _ hg hg2
 generalize (q.gk.any fun c=> !decide (c∈p.aW))=b1 at*
 generalize (q.pred.any fun a=> !decide (a.fM∈p.aW))=b2 at*
 refine ag.aj (hint:=(fun _=>false)) Tryz.func13 (by kernel_rfl) rfl [4] (by kernel_rfl) (by decide) (by simp[Tryz.ntmps13]) ?_
 rw[Tryz.ntmps13]
 simp -implicitDefEqProofs only[↓reduceIte,go_sem,an,Nat.reduceAdd,Nat.reduceLT,Nat.reduceEqDiff,Pj.av,Pj.ds,Qu.av,Qu.ds]
 refine aQ K.mixed (by kernel_rfl) ?_
 simp -implicitDefEqProofs only[↓reduceIte,go_sem,ab,Nat.reduceAdd,Nat.reduceLT,Nat.reduceEqDiff]
 refine ae.ok (hn _) ?_
 simp -implicitDefEqProofs only[↓reduceIte,go_sem,ab,Nat.reduceLT,Nat.reduceEqDiff]
 refine ae.ok (h1 _ _ (by simp[Pj.ds])) ?_
 cases b1
 case' false=>
  simp -implicitDefEqProofs only[↓reduceIte,go_sem,ab,Nat.reduceAdd,Nat.reduceLT,Nat.reduceLeDiff,Nat.reduceEqDiff]
  refine ae.ok (h2 _ _ (by simp[Pj.ds]) (by simp)) ?_
 all_goals
  simp -implicitDefEqProofs only[↓reduceIte,go_sem,Nat.reduceLT,Nat.reduceEqDiff,reduceCtorEq]
  refine au.ret ?_
  simp -implicitDefEqProofs only[↓reduceIte,go_sem,Nat.reduceLT]<;>simp
structure Fl where
 kinds:List Int
 projs:List Pj
def Fl.ds(f:Fl):List D:=[.list false (ints f.kinds),.list false (f.projs.map Pj.ds)]
def Fl.av(f:Fl):AV:= .agg (f.ds.map .d)
abbrev fB(f:Fl):az:= .box 35 2 0 1 (f.ds.map .d)
structure Fl.Ok (f:Fl):Prop where
 len:f.projs.length≤1000000
 all:∀p∈f.projs,p.Ok
def dm(q:Qu):List Bool:=if 0<q.bu.length then[false,true]else[false]
abbrev rB(q:Qu):az:= .box 44 1 0 1 [.d (.list false ((dm q).map fun b=>[.v (.bool b)]))]
theorem j0(f:Fl)(q:Qu)(hq:q.Ok)(H:aa):∃v,ag Tryz.prog 28 [f.av,q.av] H (.ok (.fn 54 [.ptr H.length 0 0 0,.ptr (H.length+1) 0 0 0,.ptr (H.length+3) 0 0 0])) (H++[fB f,qB q,.arr 4 1 v [],rB q]):=by
 have hjl:=hq.bu
 by_cases hj:0<(q.bu.length:Int)
 ·refine⟨2,?_⟩
  have hr:dm q=[false,true]:=if_pos (by omega)
  unfold rB
  rw[hr]
  refine ag.aj (hint:=(fun t=>t==6||t==1000004)) Tryz.func28 (by kernel_rfl) rfl [4] (by kernel_rfl) (by decide) (by simp[Tryz.ntmps28]) ?_
  rw[Tryz.ntmps28]
  simp -implicitDefEqProofs only[↓reduceIte,go_sem,ab,an,Nat.reduceAdd,Nat.reduceLT,Nat.reduceLeDiff,Nat.reduceEqDiff,Nat.reduceBEq,Fl.av,Fl.ds,Qu.av,Qu.ds,List.length_map,hj]
  refine⟨_,_,al.mw _ _ (H.length+3) 1 0 1 0 (H.length+2) 1 0 2 1 44 4 [.sl (H.length+2) 1 0 2] [[.v (.bool false)],[.v (.bool true)]] (by simp -implicitDefEqProofs only[go_sem]) rfl (by simp -implicitDefEqProofs only[go_sem]),?_⟩
  simp -implicitDefEqProofs only[go_sem,Nat.reduceAdd]
  exact⟨_,al.refl _ _,rfl⟩
 ·refine⟨1,?_⟩
  have hr:dm q=[false]:=if_neg (by omega)
  unfold rB
  rw[hr]
  refine ag.aj (hint:=(fun t=>t==6||t==1000004)) Tryz.func28 (by kernel_rfl) rfl [4] (by kernel_rfl) (by decide) (by simp[Tryz.ntmps28]) ?_
  rw[Tryz.ntmps28]
  simp -implicitDefEqProofs only[↓reduceIte,go_sem,ab,an,Nat.reduceAdd,Nat.reduceLT,Nat.reduceLeDiff,Nat.reduceEqDiff,Nat.reduceBEq,Fl.av,Fl.ds,Qu.av,Qu.ds,List.length_map,hj]
  refine⟨_,_,al.mw _ _ (H.length+3) 1 0 1 0 (H.length+2) 0 0 1 1 44 4 [.sl (H.length+2) 0 0 1] [[.v (.bool false)]] (by simp -implicitDefEqProofs only[go_sem]) rfl (by simp -implicitDefEqProofs only[go_sem]),?_⟩
  simp -implicitDefEqProofs only[go_sem]
  exact⟨_,al.refl _ _,rfl⟩
theorem A1{b c:Nat}{d:D}(hc:0<c)(h:Fits (.slice b [.slice c sO]) d):∃R:List (List ak),d= .list false (bC R)∧R.length* b≤140737488351232∧∀r∈R,r.length* c≤140737488351232∧∀v∈r,v.Ok:=by
 obtain⟨l,rfl,h1,h2⟩:=Fits.ff h
 obtain⟨la,rfl,h3⟩:=iu (enc:=cQ) (p:=fun r=>r.length* c≤140737488351232∧∀v∈r,v.Ok) fun e he=>by
  obtain⟨x,xs,rfl,hx,h⟩:=aR.cons_inv (h2 e he)
  cases aR.iG h
  obtain⟨r,rfl,hl,hr⟩:=Bs hx
  exact⟨r,rfl,hl,hr⟩
 exact⟨la,rfl,by simpa using h1,h3⟩
structure AG (R:List (List ak)):Prop where
 len:R.length≤100000000000000
 row:∀r∈R,r.length≤100000000000000
 val:∀r∈R,∀v∈r,v.Ok
theorem m6{d:D}(h:Fits (.slice 24 [.slice 32 sO]) d):∃R:List (List ak),d= .list false (bC R)∧AG R:=by
 obtain⟨R,rfl,hl,hn⟩:=A1 (by decide) h
 exact⟨R,rfl,by omega,fun r hr=>by have:=(hn r hr).1;omega,fun r hr=>(hn r hr).2⟩
structure gr where
 rows:List (List ak)
 kinds:List Int
 c0:List Int
 c1:List Int
 k0:List Int
 k1:List Int
def gr.ds(t:gr):List D:=[.list false (bC t.rows),.list false (ints t.kinds),.list false (ints t.c0),.list false (ints t.c1),.list false (ints t.k0),.list false (ints t.k1)]
def gr.av(t:gr):AV:= .agg (t.ds.map .d)
structure gr.Ok (t:gr):Prop where
 rows:AG t.rows
 kinds:t.kinds.length≤100000000000000
def oW(R:List (List ak))(ks c y:List Int):List Pj:=if 20<c.length∨20<y.length then[]else if(eS R ks c y 0).2=0 then[(eS R ks c y 0).1]else[]
def jZ(ks:List Int):List Int:=upto (min ks.length 9)
def cZ(t:gr)(k:Nat):List Pj:=(eS t.rows t.kinds (jZ t.kinds) [] 0).1::((if 0<k then oW t.rows t.kinds t.c0 t.k0 else[])++(if 1<k then oW t.rows t.kinds t.c1 t.k1 else[]))
def n7(t:gr):Fl×Bool:=if cH 300 20000 t.rows=true∧(eS t.rows t.kinds (jZ t.kinds) [] 0).2=0 then(⟨t.kinds,cZ t 2⟩,true)else(⟨[],[]⟩,false)
theorem tg(R:List (List ak))(ks c y:List Int):(oW R ks c y).length≤1:=by unfold oW;split<;>(try split)<;>simp
theorem ji(t:gr)(k:Nat):(cZ t k).length≤3:=by
 have h1:=tg t.rows t.kinds t.c0 t.k0
 have h2:=tg t.rows t.kinds t.c1 t.k1
 unfold cZ
 split<;>split<;>simp<;>omega
theorem x9:Sub (.agg [.d (.v (.slice none 0 0)),.d (.v (.slice none 0 0))]) (Fl.av ⟨[],[]⟩):= .agg (.cons .nil (.cons .nil .nil))
theorem yW(t:gr)(ht:t.Ok)(H:aa):ag Tryz.prog 9 [t.av] H (.ok (.aZ [(n7 t).1.av,bA (n7 t).2])) H:=by
 have hfw:=fun H=>wY t.rows false ht.rows.len ht.rows.row (fun r hr v hv=>(ht.rows.val r hr v hv).s) H
 have hmk:=fun(hf:cH 300 20000 t.rows=true) c y (hc:c.length≤20) (hy:y.length≤20) H=>v7 t.rows t.kinds c y 0 false false false false H (by have:=(kN hf).1;omega) (fun r hr=>by have:=(kN hf).2 r hr;omega) ht.kinds (by omega) (by omega) (fun r hr v hv=>(ht.rows.val r hr v hv).i)
 have hkl:=ht.kinds
 have hP0:cZ t 0=[(eS t.rows t.kinds (jZ t.kinds) [] 0).1]:=rfl
 have hP1:cZ t 1=cZ t 0++oW t.rows t.kinds t.c0 t.k0:=by simp[cZ]
 have hP2:cZ t 2=cZ t 1++oW t.rows t.kinds t.c1 t.k1:=by simp[cZ]
 have hPl:=ji t
 have hal:(jZ t.kinds).length=min t.kinds.length 9:=fD _
 have hae:jZ t.kinds=upto (min t.kinds.length 9):=rfl
 unfold n7
 generalize cZ t=P at*
 obtain⟨R,ks,c0,c1,k0,k1⟩:=t
 simp only at*
 by_cases hf:cH 300 20000 R=true
 case neg=>
  rw[if_neg (fun h=>hf h.1)]
  rw[show cH 300 20000 R=false by simpa using hf]at hfw
  refine ag.jX (cs:=[.agg [.d (.v (.slice none 0 0)),.d (.v (.slice none 0 0))],bA false]) ?_ (.cons x9 (.cons (.refl _) .nil))
  refine ag.cC (hint:=fun t=>t==1000008) Tryz.func9 (by kernel_rfl) rfl [.cell 2 35,.tmp 3] (by kernel_rfl) (by simp[Tryz.ntmps9]) ?_
  rw[Tryz.ntmps9]
  simp -implicitDefEqProofs only[↓reduceIte,go_sem,ab,Nat.reduceAdd,Nat.reduceLT,Nat.reduceLeDiff,Nat.reduceEqDiff,Nat.reduceBEq,gr.av,gr.ds]
  refine ae.ok (hfw _) ?_
  simp -implicitDefEqProofs only[↓reduceIte,go_sem,an,Nat.reduceAdd,Nat.reduceLT,Nat.reduceEqDiff]
  refine cN.ret ?_
  simp -implicitDefEqProofs only[↓reduceIte,go_sem,ab,Nat.reduceAdd,Nat.reduceLT,Nat.reduceLeDiff,Nat.reduceEqDiff,bI,cO]
 have hmk:=hmk hf
 rw[hf]at hfw⊢
 simp only[true_and]
 have hm0:=fun H=>hmk (jZ ks) [] (by omega) (by simp) H
 generalize hm:eS R ks (jZ ks) [] 0=mk at*
 suffices hh:ag Tryz.prog 9 [.agg [.d (.list false (bC R)),.d (.list false (ints ks)),.d (.list false (ints c0)),.d (.list false (ints c1)),.d (.list false (ints k0)),.d (.list false (ints k1))]] H (.ok (if mk.2=0 then .aZ [Fl.av ⟨ks,P 2⟩,bA true]else .aZ [.agg [.d (.v (.slice none 0 0)),.d (.v (.slice none 0 0))],bA false])) H by
  by_cases h:mk.2=0
  ·rw[if_pos h]at hh⊢;exact hh
  ·rw[if_neg h]at hh⊢;exact hh.jX (.cons x9 (.cons (.refl _) .nil))
 refine ag.cC (hint:=fun t=>t==1000008||t==1000012||t==1000017||t==10||t==1000020) Tryz.func9 (by kernel_rfl) rfl [.cell 2 35,.tmp 3] (by kernel_rfl) (by simp[Tryz.ntmps9]) ?_
 rw[Tryz.ntmps9]
 simp -implicitDefEqProofs only[↓reduceIte,go_sem,ab,Nat.reduceAdd,Nat.reduceLT,Nat.reduceLeDiff,Nat.reduceEqDiff,Nat.reduceBEq]
 refine ae.ok (hfw _) ?_
 simp -implicitDefEqProofs only[↓reduceIte,go_sem,Nat.reduceAdd,Nat.reduceLT,Nat.reduceBEq]
 obtain⟨tb,htb⟩:∃tb,tb=az.box 26 6 0 1 [.d (.list false (bC R)),.d (.list false (ints ks)),.d (.list false (ints c0)),.d (.list false (ints c1)),.d (.list false (ints k0)),.d (.list false (ints k1))]:=⟨_,rfl⟩
 have hb:∀m,tb.below m=true:=by intro m;subst htb;simp -implicitDefEqProofs only[go_sem]
 rw[←htb]
 refine bj (fun k s H'=>H'=H++[tb,.box 35 2 0 1 [.d (.v (.slice none 0 0)),.d (.v (.slice none 0 0))],.arr 3 1 k (ints (upto k))]∧s 1= .ptr H.length 0 0 0∧s 2= .ptr (H.length+1) 0 0 0∧s 4= .sl (H.length+2) k 0 k∧s 5=iA k) (min ks.length 9) (by omega) (al.gB _ _ 4 3 1 (by decide) (by simp -implicitDefEqProofs only[↓reduceIte,go_sem,Nat.reduceLT,Nat.reduceEqDiff]) _) ?_ ?_ ?_
 ·refine⟨?_,?_⟩
  ·simp -implicitDefEqProofs only[go_sem,show ints (upto 0)=[]from rfl]
  ·simp -implicitDefEqProofs only[↓reduceIte,go_sem,Nat.reduceAdd,Nat.reduceLT,Nat.reduceEqDiff]
 ·rintro k s H' hk hw ⟨rfl,t1,t2,t4,t5⟩
  have e1:ints (upto (k+1))=ints (upto k)++[[.v (.int .i64 (k:Int))]]:=by rw[lI,←gO]
  have e2:(ints (upto k)).length=k:=by rw[ay,fD]
  rw[e1]
  generalize ints (upto k)=U at*
  simp -implicitDefEqProofs only[↓reduceIte,go_sem,ab,Nat.reduceAdd,Nat.reduceLT,Nat.reduceLeDiff,Nat.reduceEqDiff,Nat.reduceBEq,t1,t5,htb,ay,show k<ks.length by omega,show(k:Int)<9 by omega,t4,e2]
  rw[←htb]
  refine⟨by omega,by omega,c7.same ⟨rfl,?_⟩⟩
  simp -implicitDefEqProofs only[↓reduceIte,go_sem,Nat.reduceLT,Nat.reduceEqDiff,t1,t2,hw]
 rintro s H' ⟨rfl,t1,t2,t4,t5⟩
 rw[←hae]
 have hai:(ints (jZ ks)).take (jZ ks).length=ints (jZ ks):=List.take_of_length_le (by rw[ay];omega)
 rw[←hal]at t4 t5⊢
 generalize jZ ks=A at*
 by_cases h9:A.length<ks.length
 case' pos=>simp -implicitDefEqProofs only[↓reduceIte,go_sem,ab,Nat.reduceAdd,Nat.reduceLT,Nat.reduceLeDiff,Nat.reduceEqDiff,Nat.reduceBEq,t1,t5,htb,ay,h9,show ¬(A.length:Int)<9 by omega]
 case' neg=>simp -implicitDefEqProofs only[↓reduceIte,go_sem,ab,Nat.reduceAdd,Nat.reduceLT,Nat.reduceLeDiff,Nat.reduceEqDiff,Nat.reduceBEq,reduceCtorEq,t1,t5,htb,ay,h9]
 all_goals
  refine⟨_,_,al.cut [_,_] [_] 2 rfl _ (by simp -implicitDefEqProofs only[go_sem]),?_⟩
  simp -implicitDefEqProofs only[↓reduceIte,go_sem,ab,an,Nat.reduceAdd,Nat.reduceLT,Nat.reduceLeDiff,Nat.reduceEqDiff,Nat.reduceBEq,t1,t4,hai]
  refine ae.sub (.cons (.refl _) (.cons (.refl _) (.cons (.refl _) (.cons .nil (.cons (.refl _) .nil))))) (hm0 _) ?_
  obtain⟨⟨p1,p2,p3,p4⟩,e⟩:=mk
  by_cases he:e=0
  case neg=>
   rw[if_neg he]
   simp -implicitDefEqProofs only[↓reduceIte,go_sem,an,Nat.reduceAdd,Nat.reduceLT,Nat.reduceEqDiff,Nat.reduceBEq,Pj.av,Pj.ds,he,t2]
   refine cN.ret ?_
   simp -implicitDefEqProofs only[↓reduceIte,go_sem,ab,Nat.reduceAdd,Nat.reduceLT,Nat.reduceLeDiff,Nat.reduceEqDiff,bI,cO,t2]
  rw[if_pos he]
  subst he
  simp -implicitDefEqProofs only[↓reduceIte,go_sem,an,Nat.reduceAdd,Nat.reduceLT,Nat.reduceEqDiff,Nat.reduceBEq,Pj.av,Pj.ds]
  refine⟨_,_,al.dA _ _ (H.length+2) 35 2 0 1 [.d (.list false (ints ks)),.d (.v (.slice none 0 0))] 1 _ 49 4 (by decide) (by simp -implicitDefEqProofs only[go_sem]) rfl rfl,?_⟩
  simp -implicitDefEqProofs only[↓reduceIte,go_sem,ab,an,Nat.reduceAdd,Nat.reduceLT,Nat.reduceLeDiff,Nat.reduceEqDiff,Nat.reduceBEq]
  refine bj (fun k s H'=>H'=H++[.box 26 6 0 1 [.d (.list false (bC R)),.d (.list false (ints ks)),.d (.list false (ints c0)),.d (.list false (ints c1)),.d (.list false (ints k0)),.d (.list false (ints k1))],.box 35 2 0 1 [.d (.v (.slice none 0 0)),.d (.v (.slice none 0 0))],.box 35 2 0 1 [.d (.list false (ints ks)),.sl (H.length+4) (P k).length 0 (P k).length],.box 49 4 0 1 [.d (.list false (ints p1)),.d (.list false (ints p2)),iA p3,.d (.list false (cl p4))],.arr 49 4 (P k).length ((P k).map Pj.ds)]∧s 1= .ptr H.length 0 0 0∧s 2= .ptr (H.length+1) 0 0 0∧s 6= .ptr (H.length+2) 0 0 0∧s 9=iA k) 2 (by omega) (al.refl _ _) ?_ ?_ ?_
  ·refine⟨?_,?_⟩
   ·rw[hP0]
    simp -implicitDefEqProofs only[go_sem,Pj.ds]
   ·simp -implicitDefEqProofs only[↓reduceIte,go_sem,Nat.reduceLT,Nat.reduceEqDiff,t1,t2]
  ·rintro k s H' hk hw ⟨rfl,t1,t2,t6,t9⟩
   have hPs:∃c y,P (k+1)=P k++oW R ks c y∧((k=0∧c0=c∧k0=y)∨(k=1∧c1=c∧k1=y)):=by
    rcases(show k=0∨k=1 by omega)with rfl|rfl
    ·exact⟨c0,k0,hP1,.inl ⟨rfl,rfl,rfl⟩⟩
    ·exact⟨c1,k1,hP2,.inr ⟨rfl,rfl,rfl⟩⟩
   obtain⟨c,y,hPs,hk2⟩:=hPs
   have hPk:=hPl k
   have hml:((P k).map Pj.ds).length=(P k).length:=by simp
   clear hP0 hP1 hP2 hPl
   generalize P k=Pk at*
   generalize P (k+1)=Pn at*
   unfold oW at hPs
   have w1:IntKind.i64.wrap 1=1:=by decide
   have w2:IntKind.i64.wrap 2=2:=by decide
   by_cases hc:20<(c.length:Int)
   ·rw[if_pos (.inl (by omega)),List.append_nil]at hPs
    rcases hk2 with⟨rfl,rfl,rfl⟩|⟨rfl,rfl,rfl⟩
    all_goals
     simp -implicitDefEqProofs only[↓reduceIte,go_sem,ab,Nat.reduceAdd,Nat.reduceLT,Nat.reduceLeDiff,Nat.reduceEqDiff,Nat.reduceBEq,Int.reduceLE,Int.reduceLT,Int.reduceAdd,Int.reduceToNat,t1,t9,ay,hc]
     refine c7.same ⟨by rw[hPs],?_⟩
     simp -implicitDefEqProofs only[↓reduceIte,go_sem,Nat.reduceLT,Nat.reduceEqDiff,t1,t2,t6,w1,w2]
   by_cases hy:20<(y.length:Int)
   ·rw[if_pos (.inr (by omega)),List.append_nil]at hPs
    rcases hk2 with⟨rfl,rfl,rfl⟩|⟨rfl,rfl,rfl⟩
    all_goals
     simp -implicitDefEqProofs only[↓reduceIte,go_sem,ab,Nat.reduceAdd,Nat.reduceLT,Nat.reduceLeDiff,Nat.reduceEqDiff,Nat.reduceBEq,Int.reduceLE,Int.reduceLT,Int.reduceAdd,Int.reduceToNat,reduceCtorEq,t1,t9,ay,hc,hy]
     refine c7.same ⟨by rw[hPs],?_⟩
     simp -implicitDefEqProofs only[↓reduceIte,go_sem,Nat.reduceLT,Nat.reduceEqDiff,t1,t2,t6,w1,w2]
   rw[if_neg (by omega)]at hPs
   have hmq:=fun H=>hmk c y (by omega) (by omega) H
   generalize eS R ks c y 0=mq at*
   obtain⟨⟨q1,q2,q3,q4⟩,g⟩:=mq
   have hti:TI Tryz.prog 49=some ((.agg #[.slice none 0 0,.slice none 0 0,.int .i64 0,.slice none 0 0]:Value),4,80):=by kernel_rfl
   rcases hk2 with⟨rfl,rfl,rfl⟩|⟨rfl,rfl,rfl⟩
   all_goals
    simp -implicitDefEqProofs only[↓reduceIte,go_sem,ab,Nat.reduceAdd,Nat.reduceLT,Nat.reduceLeDiff,Nat.reduceEqDiff,Nat.reduceBEq,Int.reduceLE,Int.reduceLT,Int.reduceToNat,reduceCtorEq,t1,t9,ay,hc,hy]
    refine⟨_,_,al.more _ _ 49 4 (by decide),?_⟩
    simp -implicitDefEqProofs only[go_sem]
    refine qn [none,none,none,none,some false,none,none,none,some false,none,none,none,some true,some false,some false,some false,some true,some true,some false] 16 (H.length+5) (.box 49 4 1 1 fF) (H++[.box 26 6 0 1 [.d (.list false (bC R)),.d (.list false (ints ks)),.d (.list false (ints c0)),.d (.list false (ints c1)),.d (.list false (ints k0)),.d (.list false (ints k1))],.box 35 2 0 1 [.d (.v (.slice none 0 0)),.d (.v (.slice none 0 0))],.box 35 2 0 1 [.d (.list false (ints ks)),.sl (H.length+4) Pk.length 0 Pk.length],.box 49 4 0 1 [.d (.list false (ints p1)),.d (.list false (ints p2)),iA p3,.d (.list false (cl p4))],.arr 49 4 Pk.length (Pk.map Pj.ds)]) K.mixed (by kernel_rfl) (by kernel_rfl) (by kernel_rfl) (zN _ [_,_,_,_,_] [_]) (by intro o ho;simp at ho) ?_
    simp -implicitDefEqProofs only[↓reduceIte,go_sem,ab,Nat.reduceAdd,Nat.reduceLT,Nat.reduceLeDiff,Nat.reduceEqDiff,Int.reduceLE,Int.reduceLT,Int.reduceToNat,reduceCtorEq,t1,t9]
    refine ae.ok (hmq _) ?_
    simp -implicitDefEqProofs only[↓reduceIte,go_sem,Nat.reduceAdd,Nat.reduceLT,Nat.reduceEqDiff]
    refine ae.ok (hmq _) ?_
    simp -implicitDefEqProofs only[↓reduceIte,go_sem,an,Nat.reduceAdd,Nat.reduceLT,Nat.reduceEqDiff,Pj.av,Pj.ds]
    refine⟨zN _ [_,_,_,_,_] [_],⟨_,_,_,_,49,rfl,rfl,hti,⟨by decide,by kernel_rfl,by kernel_rfl⟩,rfl,rfl,by simp -implicitDefEqProofs only[go_sem]⟩,?_⟩
    simp -implicitDefEqProofs only[↓reduceIte,go_sem,Nat.reduceAdd,Nat.reduceLT,Nat.reduceEqDiff,Nat.reduceBEq,fF]
    refine⟨zN _ [_,_,_,_,_] [_],?_⟩
    by_cases hg:g=0
    ·rw[if_pos hg]at hPs
     subst hg
     simp -implicitDefEqProofs only[↓reduceIte,go_sem,ab,an,Nat.reduceAdd,Nat.reduceLT,Nat.reduceLeDiff,Nat.reduceEqDiff,Nat.reduceBEq,Int.reduceAdd,t6,t9,hml]
     refine⟨by omega,by omega,?_⟩
     refine c7.cut [.box 26 6 0 1 [.d (.list false (bC R)),.d (.list false (ints ks)),.d (.list false (ints c0)),.d (.list false (ints c1)),.d (.list false (ints k0)),.d (.list false (ints k1))],.box 35 2 0 1 [.d (.v (.slice none 0 0)),.d (.v (.slice none 0 0))],.box 35 2 0 1 [.d (.list false (ints ks)),.sl (H.length+4) (Pk.length+1) 0 (Pk.length+1)],.box 49 4 0 1 [.d (.list false (ints p1)),.d (.list false (ints p2)),iA p3,.d (.list false (cl p4))],.arr 49 4 (Pk.length+1) (Pk.map Pj.ds++[[.list false (ints q1),.list false (ints q2),iD q3,.list false (cl q4)]])] _ 5 rfl rfl ?_ ?_
     ·simp -implicitDefEqProofs only[go_sem,Nat.reduceLT]
     refine⟨by rw[hPs];simp[Pj.ds],?_⟩
     simp -implicitDefEqProofs only[↓reduceIte,go_sem,Nat.reduceLT,Nat.reduceEqDiff,t1,t2,t6,w1,w2]
    ·rw[if_neg hg,List.append_nil]at hPs
     simp -implicitDefEqProofs only[↓reduceIte,go_sem,Nat.reduceAdd,Nat.reduceLT,Nat.reduceEqDiff,Nat.reduceBEq,Int.reduceAdd,hg,t9]
     refine c7.cut [.box 26 6 0 1 [.d (.list false (bC R)),.d (.list false (ints ks)),.d (.list false (ints c0)),.d (.list false (ints c1)),.d (.list false (ints k0)),.d (.list false (ints k1))],.box 35 2 0 1 [.d (.v (.slice none 0 0)),.d (.v (.slice none 0 0))],.box 35 2 0 1 [.d (.list false (ints ks)),.sl (H.length+4) Pk.length 0 Pk.length],.box 49 4 0 1 [.d (.list false (ints p1)),.d (.list false (ints p2)),iA p3,.d (.list false (cl p4))],.arr 49 4 Pk.length (Pk.map Pj.ds)] _ 5 rfl rfl ?_ ?_
     ·simp -implicitDefEqProofs only[go_sem,Nat.reduceLT]
     refine⟨by rw[hPs],?_⟩
     simp -implicitDefEqProofs only[↓reduceIte,go_sem,Nat.reduceLT,Nat.reduceEqDiff,t1,t2,t6,w1,w2]
  ·rintro s H' ⟨rfl,t1,t2,t6,t9⟩
   have hPl2:=hPl 2
   have hmt:((P 2).map Pj.ds).length=(P 2).length:=by simp
   generalize P 2=P2 at*
   simp -implicitDefEqProofs only[↓reduceIte,go_sem,Nat.reduceAdd,Nat.reduceLT,Nat.reduceBEq,Int.reduceLT,t9]
   refine⟨_,_,al.mw _ _ (H.length+2) 2 0 1 1 (H.length+4) P2.length 0 P2.length 4 35 49 [.d (.list false (ints ks)),.sl (H.length+4) P2.length 0 P2.length] (P2.map Pj.ds) (by simp -implicitDefEqProofs only[go_sem]) rfl (by simp -implicitDefEqProofs only[go_sem]),?_⟩
   simp -implicitDefEqProofs only[↓reduceIte,go_sem,ab,an,Nat.reduceAdd,Nat.reduceLT,Nat.reduceEqDiff,t6,t2,List.take_of_length_le (Nat.le_of_eq hmt)]
   refine cN.ret ?_
   simp -implicitDefEqProofs only[↓reduceIte,go_sem,ab,Nat.reduceAdd,Nat.reduceLT,Nat.reduceLeDiff,Nat.reduceEqDiff,bI,cO,t2,Fl.av,Fl.ds]
theorem ma{t:gr}(h:(n7 t).2=true):(n7 t).1=⟨t.kinds,cZ t 2⟩∧cH 300 20000 t.rows=true∧(eS t.rows t.kinds (jZ t.kinds) [] 0).2=0:=by
 unfold n7 at h⊢
 split
 ·rename_i h1;exact⟨rfl,h1⟩
 ·rename_i h1;rw[if_neg h1]at h;cases h
theorem CP{R:List (List ak)}{ks c y:List Int}{p:Pj}(h:p∈oW R ks c y):p.Ok:=by
 unfold oW at h
 split at h
 ·cases h
 ·split at h
  ·rw[List.mem_singleton.1 h]
   rename_i h1 h2
   exact(kI h2).ok (by omega)
  ·cases h
theorem Dq{t:gr}(h:(n7 t).2=true):(n7 t).1.Ok:=by
 obtain⟨h1,h2,h3⟩:=ma h
 rw[h1]
 refine⟨by have:=ji t 2;simp only;omega,fun p hp=>?_⟩
 simp only[cZ]at hp
 rcases List.mem_cons.1 hp with rfl|hp
 ·exact(kI h3).ok (by rw[jZ,fD];omega)
 ·simp only[Nat.lt_add_one,if_true,show 0<2 by omega,List.mem_append]at hp
  rcases hp with hp|hp<;>exact CP hp
theorem FJ{x:AV}(h:lv Tryz.prog 31 x):∃q:Qu,x=q.av:=by
 obtain⟨ds,rfl,hf⟩:=xt h K.Dy (shs:=[.int .i64,.slice 48 qZ,.slice 48 [.int .i64,.int .i64,.int .i64,.slice 48 qZ],.slice 8 [.int .i64],.bool,.slice 16 [.int .i64,.int .i64],.slice 8 [.int .i64],.int .i64]) (by kernel_rfl)
 obtain⟨x0,_,rfl,h0,h⟩:=aR.cons_inv hf
 obtain⟨x1,_,rfl,h1,h⟩:=aR.cons_inv h
 obtain⟨x2,_,rfl,h2,h⟩:=aR.cons_inv h
 obtain⟨x3,_,rfl,h3,h⟩:=aR.cons_inv h
 obtain⟨x4,_,rfl,h4,h⟩:=aR.cons_inv h
 obtain⟨x5,_,rfl,h5,h⟩:=aR.cons_inv h
 obtain⟨x6,_,rfl,h6,h⟩:=aR.cons_inv h
 obtain⟨x7,_,rfl,h7,h⟩:=aR.cons_inv h
 cases aR.iG h
 obtain⟨pred,rfl,_,_⟩:=zO h1
 obtain⟨aW,rfl,_,_⟩:=gK h3
 obtain⟨l2,rfl,_,g2⟩:=Fits.ff h2
 obtain⟨l5,rfl,_,g5⟩:=Fits.ff h5
 obtain⟨bu,rfl,_⟩:=iu (enc:=pk) (p:=fun _=>True) fun e he=>by
  obtain⟨a,_,rfl,ha,h⟩:=aR.cons_inv (g2 e he)
  obtain⟨b,_,rfl,_,h⟩:=aR.cons_inv h
  obtain⟨c,_,rfl,_,h⟩:=aR.cons_inv h
  obtain⟨d,_,rfl,_,h⟩:=aR.cons_inv h
  cases aR.iG h
  obtain⟨n,rfl,_⟩:=Fits.fY ha
  exact⟨(n,b,c,d),rfl,trivial⟩
 obtain⟨cT,rfl,_⟩:=iu (enc:=pD) (p:=fun _=>True) fun e he=>by
  obtain⟨a,_,rfl,ha,h⟩:=aR.cons_inv (g5 e he)
  obtain⟨b,_,rfl,hb,h⟩:=aR.cons_inv h
  cases aR.iG h
  obtain⟨n,rfl,_⟩:=Fits.fY ha
  obtain⟨m,rfl,_⟩:=Fits.fY hb
  exact⟨(n,m),rfl,trivial⟩
 exact⟨⟨x0,pred,bu,aW,x4,cT,x6,x7⟩,rfl⟩
theorem Cy{x:AV}(h:lv Tryz.prog 26 x):∃t:gr,x=t.av∧t.Ok:=by
 obtain⟨ds,rfl,hf⟩:=xt h K.DB (shs:=[.slice 24 [.slice 32 sO],.slice 8 [.int .i64],.slice 8 [.int .i64],.slice 8 [.int .i64],.slice 8 [.int .i64],.slice 8 [.int .i64]]) (by kernel_rfl)
 obtain⟨d0,ds,rfl,h0,hf⟩:=aR.cons_inv hf
 obtain⟨d1,ds,rfl,h1,hf⟩:=aR.cons_inv hf
 obtain⟨d2,ds,rfl,h2,hf⟩:=aR.cons_inv hf
 obtain⟨d3,ds,rfl,h3,hf⟩:=aR.cons_inv hf
 obtain⟨d4,ds,rfl,h4,hf⟩:=aR.cons_inv hf
 obtain⟨d5,ds,rfl,h5,hf⟩:=aR.cons_inv hf
 cases aR.iG hf
 obtain⟨R,rfl,hR⟩:=m6 h0
 obtain⟨ks,rfl,hk,_⟩:=gK h1
 obtain⟨c0,rfl,_,_⟩:=gK h2
 obtain⟨c1,rfl,_,_⟩:=gK h3
 obtain⟨k0,rfl,_,_⟩:=gK h4
 obtain⟨k1,rfl,_,_⟩:=gK h5
 exact⟨⟨R,ks,c0,c1,k0,k1⟩,rfl,hR,by simp only;omega⟩
def dQ(i:Nat)(r:Bool)(o:List Int):List Pl:=[⟨i,true,o,1,r⟩,⟨i,true,o,2,r⟩,⟨i,true,o,3,r⟩]
def fA(i:Nat)(n:Nat)(r:Bool):List Pl:=⟨i,false,upto n,0,r⟩::(bN n).flatMap (dQ i r)
def kA(q:Qu)(i:Nat)(p:Pj):List Pl:=if dB p q then(dm q).flatMap (fA i q.pred.length)else[]
def eh(f:Fl)(q:Qu)(k:Nat):List Pl:=(List.range k).flatMap fun i=>match f.projs[i]? with|some p=>kA q i p|none=>[]
def bS(f:Fl)(q:Qu):List Pl:=eh f q f.projs.length
theorem jb(f:Fl)(q:Qu){k:Nat}(h:k<f.projs.length):eh f q (k+1)=eh f q k++kA q k f.projs[k]:=by simp[eh,List.range_succ,List.flatMap_append,h]
theorem xi(f:Fl)(q:Qu){k:Nat}(h:k<f.projs.length):∃t,bS f q=eh f q k++(kA q k f.projs[k]++t):=by
 have:∀n,∃t,eh f q (k+1+n)=eh f q (k+1)++t:=fun n=>by
  induction n with
  |zero=>exact⟨[],by simp⟩
  |succ n ih=>
   obtain⟨t,ht⟩:=ih
   unfold eh at ht⊢
   rw[show k+1+(n+1)=(k+1+n)+1 from rfl,List.range_succ,List.flatMap_append,ht,List.append_assoc]
   exact⟨_,rfl⟩
 obtain⟨t,ht⟩:=this (f.projs.length-(k+1))
 rw[show k+1+(f.projs.length-(k+1))=f.projs.length by omega,jb f q h,List.append_assoc]at ht
 exact⟨t,ht⟩
theorem nz{α β:Type}(g:α→List β)(l:List α)(k:Nat)(h:k<l.length):l.flatMap g=(l.take k).flatMap g++(g l[k]++(l.drop (k+1)).flatMap g):=by
 conv=>lhs;rw[←List.take_append_drop k l,List.drop_eq_getElem_cons h,List.flatMap_append,List.flatMap_cons]
theorem lz{α β:Type}(g:α→List β)(l:List α)(k:Nat)(h:k<l.length):(l.take (k+1)).flatMap g=(l.take k).flatMap g++g l[k]:=by
 rw[List.take_succ_eq_append_getElem h,List.flatMap_append];simp
def yG(L:List Pl):List (List AV):=L.map fun p=>[p.av]
theorem B6{L A B:List Pl}{p:Pl}(h:L=A++p::B):∃hk:A.length<(yG L).length,(yG L)[A.length]=[p.av]:=by
 subst h;exact⟨by simp[yG],by simp[yG]⟩
def jh(l:List Bool):List (List D):=l.map fun b=>[.v (.bool b)]
theorem wL(l:List Bool):(jh l).length=l.length:=by simp[jh]
theorem wU(l:List Bool)(k:Nat)(h:k<l.length):(jh l)[k]?=some [.v (.bool l[k])]:=by simp[jh,h]
theorem BM(f:Fl)(hf:f.Ok)(q:Qu)(hq:q.Ok)(a b c:Nat):mU Tryz.prog 54 [.ptr a 0 0 0,.ptr b 0 0 0,.ptr c 0 0 0] (fun H=>H[a]?=some (fB f)∧H[b]?=some (qB q)∧H[c]?=some (rB q)) (yG (bS f q)):=by
 intro r s0 J Jx m Hs h0 hsb hJ hY
 have hfl:=hf.len
 have hpl:=hq.pred
 have hrl:(dm q).length≤2:=by unfold dm;split<;>simp
 obtain⟨nn,hord⟩:∃nn,∀H,ag Tryz.prog 22 [iA q.pred.length] H (.ok (.d (.list nn ((bN q.pred.length).map eA)))) H:=gL q.pred.length (by omega)
 have hol:(bN q.pred.length).length≤24:=(eZ q.pred.length).2.2.1
 refine ou.aj (hint:=fun t=>t==3000000) Tryz.func54 (by kernel_rfl) rfl [] (by kernel_rfl) (by decide) (by simp[Tryz.ntmps54]) ?_
 rw[Tryz.ntmps54]
 obtain⟨⟨hCa,_⟩,_,hl0⟩:=hJ 0 Hs h0
 have hxa:=fun T=>pO hCa T
 simp -implicitDefEqProofs only[↓reduceIte,go_sem,ab,Nat.reduceAdd,Nat.reduceLT,hxa,Fl.ds,List.length_map]
 refine aO (fun k s H'=>∃Hk,J (eh f q k).length Hk∧H'=Hk++[.lp r s0]∧s 0= .fN m∧s 1= .ptr a 0 0 0∧s 2= .ptr b 0 0 0∧s 3= .ptr c 0 0 0∧s 13= .d (.list false (f.projs.map Pj.ds))∧s 14=iA f.projs.length∧s 15=iA k) f.projs.length (by omega) (al.refl _ _) ?_ ?_ ?_
 ·refine⟨Hs,h0,rfl,?_⟩
  simp -implicitDefEqProofs only[↓reduceIte,go_sem,Nat.reduceLT,Nat.reduceEqDiff,reduceCtorEq]
 ·rintro k s H' hk hw ⟨Hk,hJk,rfl,t0,t1,t2,t3,t13,t14,t15⟩
  have hx:(f.projs.map Pj.ds)[k]?=some f.projs[k].ds:=by simp[hk]
  obtain⟨⟨hCa,hCb,hCc⟩,hbk,hlk⟩:=hJ _ _ hJk
  have hia:=ai hCa
  have hib:=ai hCb
  have hic:=ai hCc
  have hxb:=fun T=>pO hCb T
  have hxc:=fun T=>(pO hCc T).trans (show some (rB q)=some (.box 44 1 0 1 [.d (.list false (jh (dm q)))])from rfl)
  have e1:=jb f q hk
  obtain⟨tl,e2⟩:=xi f q hk
  have hpo:=hf.all _ (List.getElem_mem hk)
  rw[e1]
  generalize eh f q k=done at*
  generalize f.projs[k]=p at*
  have hcv:=fun H=>my p hpo.aW q hq H
  unfold kA at e1 e2⊢
  generalize dB p q=cv at*
  simp -implicitDefEqProofs only[↓reduceIte,go_sem,ab,an,Nat.reduceAdd,Nat.reduceLT,Nat.reduceEqDiff,Nat.reduceBEq,t2,t13,t14,t15,hk,hx,Pj.ds,hxb,Qu.ds]
  refine ae.ok (hcv _) ?_
  cases cv with
  |false=>
   simp -implicitDefEqProofs only[↓reduceIte,go_sem,Nat.reduceAdd,Nat.reduceLT,Nat.reduceEqDiff,Nat.reduceBEq,reduceCtorEq,t15]
   refine⟨_,_,al.iter rfl hbk hlk hl0 hsb,Hk,by simpa using hJk,rfl,?_⟩
   simp -implicitDefEqProofs only[↓reduceIte,go_sem,Nat.reduceLT,Nat.reduceEqDiff,reduceCtorEq,t0,t1,t2,t3,t13,t14,hw,Nat.lt_add_one,←hlk,Nat.lt_succ_of_lt hia,Nat.lt_succ_of_lt hib,Nat.lt_succ_of_lt hic]
  |true=>
  rw[if_pos rfl]at e2⊢
  generalize hρ:dm q=ρ at*
  simp -implicitDefEqProofs only[↓reduceIte,go_sem,ab,Nat.reduceAdd,Nat.reduceLT,Nat.reduceEqDiff,Nat.reduceBEq,t3,hxc,wL]
  refine aO (fun j s H'=>∃Hk,J (done++(ρ.take j).flatMap (fA k q.pred.length)).length Hk∧H'=Hk++[.lp r s0]∧s 0= .fN m∧s 1= .ptr a 0 0 0∧s 2= .ptr b 0 0 0∧s 3= .ptr c 0 0 0∧s 5=iA k∧s 13= .d (.list false (f.projs.map Pj.ds))∧s 14=iA f.projs.length∧s 15=iA k∧s 24= .d (.list false (jh ρ))∧s 25=iA ρ.length∧s 26=iA j) ρ.length (by omega) (al.iter rfl hbk hlk hl0 hsb) ?_ ?_ ?_
  ·refine⟨Hk,by simpa using hJk,rfl,?_⟩
   simp -implicitDefEqProofs only[↓reduceIte,go_sem,Nat.reduceLT,Nat.reduceEqDiff,reduceCtorEq,t0,t1,t2,t3,t13,t14,t15,Nat.lt_add_one,←hlk,Nat.lt_succ_of_lt hia,Nat.lt_succ_of_lt hib,Nat.lt_succ_of_lt hic]
  ·clear hJk hCa hCb hCc hxb hxc hbk hlk hia hib hic
   rintro j s H' hj hw2 ⟨Hk,hJk,rfl,t0,t1,t2,t3,t5,t13,t14,t15,t24,t25,t26⟩
   obtain⟨⟨hCa,hCb,hCc⟩,hbk,hlk⟩:=hJ _ _ hJk
   have hxb:=fun T=>pO hCb T
   have hx:=wU ρ j hj
   have e3:=nz (fA k q.pred.length) ρ j hj
   rw[e3]at e2
   rw[lz _ _ _ hj]
   generalize List.flatMap (fA k q.pred.length) (List.drop (j+1) ρ)=tl2 at*
   generalize hd1:done++(ρ.take j).flatMap (fA k q.pred.length)=D1 at*
   generalize ρ[j]=g at*
   have e4:bS f q=D1++⟨k,false,upto q.pred.length,0,g⟩::((bN q.pred.length).flatMap (dQ k g)++(tl2++tl)):=by rw[e2,←hd1];simp[fA]
   rw[←List.append_assoc,hd1]
   clear e2 e3 hd1
   obtain⟨hi,hxi⟩:=B6 e4
   have hYk:=fun T=>hY _ hi Hk T hJk
   rw[hxi]at hYk
   simp -implicitDefEqProofs only[↓reduceIte,go_sem,ab,Nat.reduceAdd,Nat.reduceLT,Nat.reduceLeDiff,Nat.reduceEqDiff,Nat.reduceBEq,reduceCtorEq,t0,t2,t5,t24,t25,t26,hj,hx,hxb,Qu.ds,List.length_map]
   refine ae.ok (mG q.pred.length (by omega) _) ?_
   simp -implicitDefEqProofs only[↓reduceIte,go_sem,Nat.reduceAdd,Nat.reduceLT,Nat.reduceLeDiff,Nat.reduceEqDiff]
   refine px.ok (by exact hYk []) ?_
   intro b2 H' hb
   cases b2 with
   |false=>
    rw[if_neg (by simp)]at hb
    obtain⟨Hk',c',hjx,hbk',hlk',rfl⟩:=hb
    simp -implicitDefEqProofs only[↓reduceIte,go_sem,Nat.reduceLT]
    exact⟨_,_,al.iter rfl hbk' hlk' hl0 hsb,rfl,.inr ⟨Hk',c',hjx,hlk',rfl⟩⟩
   |true=>
   rw[if_pos rfl]at hb
   obtain⟨Hk',hJk',rfl⟩:=hb
   clear hYk hJk hCa hCb hCc hxb hbk hlk hxi hi Hk hx
   obtain⟨⟨hCa,hCb,hCc⟩,hbk,hlk⟩:=hJ _ _ hJk'
   have hxb:=fun T=>pO hCb T
   have hia:=ai hCa
   have hib:=ai hCb
   have hic:=ai hCc
   simp -implicitDefEqProofs only[↓reduceIte,go_sem,ab,Nat.reduceAdd,Nat.reduceLT,Nat.reduceLeDiff,Nat.reduceEqDiff,Nat.reduceBEq,t2,hxb,Qu.ds,List.length_map]
   refine ae.ok (hord _) ?_
   generalize hos:bN q.pred.length=os at*
   simp -implicitDefEqProofs only[↓reduceIte,go_sem,Nat.reduceLT,List.length_map]
   refine aO (fun i s H'=>∃Hk,J (D1++⟨k,false,upto q.pred.length,0,g⟩::(os.take i).flatMap (dQ k g)).length Hk∧H'=Hk++[.lp r s0]∧s 0= .fN m∧s 1= .ptr a 0 0 0∧s 2= .ptr b 0 0 0∧s 3= .ptr c 0 0 0∧s 5=iA k∧s 8=bA g∧s 13= .d (.list false (f.projs.map Pj.ds))∧s 14=iA f.projs.length∧s 15=iA k∧s 24= .d (.list false (jh ρ))∧s 25=iA ρ.length∧s 26=iA j∧s 43= .d (.list nn (os.map eA))∧s 44=iA os.length∧s 45=iA i) os.length (by omega) (al.iter rfl hbk hlk hl0 hsb) ?_ ?_ ?_
   ·refine⟨Hk',by simpa using hJk',rfl,?_⟩
    simp -implicitDefEqProofs only[↓reduceIte,go_sem,Nat.reduceLT,Nat.reduceEqDiff,reduceCtorEq,t0,t1,t2,t3,t5,t13,t14,t15,t24,t25,t26,Nat.lt_add_one,←hlk,Nat.lt_succ_of_lt hia,Nat.lt_succ_of_lt hib,Nat.lt_succ_of_lt hic]
   ·clear hJk' hCa hCb hCc hxb hbk hlk hia hib hic
    rintro i s H' hi hw3 ⟨Hk,hJk,rfl,t0,t1,t2,t3,t5,t8,t13,t14,t15,t24,t25,t26,t43,t44,t45⟩
    have hx:(os.map eA)[i]?=some (eA os[i]):=by simp[hi]
    have e3:=nz (dQ k g) os i hi
    rw[e3]at e4
    rw[lz _ _ _ hi]
    generalize List.flatMap (dQ k g) (List.drop (i+1) os)=tl3 at*
    generalize hd1:(⟨k,false,upto q.pred.length,0,g⟩:Pl)::(os.take i).flatMap (dQ k g)=D2 at*
    have hd2:∀x,D1++(⟨k,false,upto q.pred.length,0,g⟩:Pl)::((os.take i).flatMap (dQ k g)++x)=(D1++D2)++x:=fun x=>by rw[←hd1];simp
    generalize os[i]=o at*
    have e5:bS f q=(D1++D2)++(dQ k g o++(tl3++(tl2++tl))):=by rw[e4,←hd2];simp
    rw[hd2]
    clear e3 e4 hd1 hd2
    generalize D1++D2=D3 at*
    simp -implicitDefEqProofs only[↓reduceIte,go_sem,Nat.reduceAdd,Nat.reduceLT,Nat.reduceEqDiff,Nat.reduceBEq,t43,t44,t45,hi,hx,eA]
    refine bj (fun n s H'=>∃Hk,J (D3++(dQ k g o).take n).length Hk∧H'=Hk++[.lp r s0]∧s 0= .fN m∧s 1= .ptr a 0 0 0∧s 2= .ptr b 0 0 0∧s 3= .ptr c 0 0 0∧s 5=iA k∧s 8=bA g∧s 10= .d (.list false (ints o))∧s 11=iA ((n:Int)+1)∧s 13= .d (.list false (f.projs.map Pj.ds))∧s 14=iA f.projs.length∧s 15=iA k∧s 24= .d (.list false (jh ρ))∧s 25=iA ρ.length∧s 26=iA j∧s 43= .d (.list nn (os.map eA))∧s 44=iA os.length∧s 45=iA i) 3 (by omega) (al.refl _ _) ?_ ?_ ?_
    ·refine⟨Hk,by simpa using hJk,rfl,?_⟩
     simp -implicitDefEqProofs only[↓reduceIte,go_sem,Nat.reduceLT,Nat.reduceEqDiff,Int.reduceAdd,reduceCtorEq,t0,t1,t2,t3,t5,t8,t13,t14,t15,t24,t25,t26,t43,t44,t45]
    ·clear hJk
     rintro n s H' hn hw4 ⟨Hk,hJk,rfl,t0,t1,t2,t3,t5,t8,t10,t11,t13,t14,t15,t24,t25,t26,t43,t44,t45⟩
     obtain⟨_,hbk,hlk⟩:=hJ _ _ hJk
     have e6:dQ k g o=(dQ k g o).take n++⟨k,true,o,(n:Int)+1,g⟩::(dQ k g o).drop (n+1):=by
      rcases n with _|_|_|n<;>first|rfl|omega
     have e7:(dQ k g o).take (n+1)=(dQ k g o).take n++[⟨k,true,o,(n:Int)+1,g⟩]:=by
      rcases n with _|_|_|n<;>first|rfl|omega
     rw[e6]at e5
     rw[e7]
     generalize (dQ k g o).drop (n+1)=tl4 at*
     generalize (dQ k g o).take n=W at*
     have e8:bS f q=(D3++W)++⟨k,true,o,(n:Int)+1,g⟩::(tl4++(tl3++(tl2++tl))):=by rw[e5];simp
     obtain⟨hi2,hxi⟩:=B6 e8
     have hYk:=fun T=>hY _ hi2 Hk T hJk
     rw[hxi]at hYk
     clear e5 e6 e7 e8
     obtain⟨n1,hn1⟩:∃n1:Int,n1=(n:Int)+1:=⟨_,rfl⟩
     rw[←hn1]at hYk t11⊢
     simp -implicitDefEqProofs only[↓reduceIte,go_sem,Nat.reduceAdd,Nat.reduceLT,Nat.reduceLeDiff,Nat.reduceEqDiff,reduceCtorEq,t0,t5,t8,t10,t11,show n1≤3 by omega]
     refine px.ok (by exact hYk []) ?_
     intro b2 H' hb
     cases b2 with
     |false=>
      rw[if_neg (by simp)]at hb
      obtain⟨Hk',c',hjx,hbk',hlk',rfl⟩:=hb
      simp -implicitDefEqProofs only[↓reduceIte,go_sem,Nat.reduceLT]
      exact⟨_,_,al.iter rfl hbk' hlk' hl0 hsb,rfl,.inr ⟨Hk',c',hjx,hlk',rfl⟩⟩
     |true=>
     rw[if_pos rfl]at hb
     obtain⟨Hk',hJk',rfl⟩:=hb
     obtain⟨⟨hCa,hCb,hCc⟩,hbk',hlk'⟩:=hJ _ _ hJk'
     have hia:=ai hCa
     have hib:=ai hCb
     have hic:=ai hCc
     simp -implicitDefEqProofs only[↓reduceIte,go_sem,Nat.reduceAdd,Nat.reduceLT,Nat.reduceEqDiff,Nat.reduceBEq,t11]
     refine⟨_,_,al.iter rfl hbk' hlk' hl0 hsb,Hk',by simpa[Nat.add_assoc]using hJk',rfl,?_⟩
     simp -implicitDefEqProofs only[↓reduceIte,go_sem,Nat.reduceLT,Nat.reduceEqDiff,reduceCtorEq,t0,t1,t2,t3,t5,t8,t10,t13,t14,t15,t24,t25,t26,t43,t44,t45,Nat.lt_add_one,←hlk',Nat.lt_succ_of_lt hia,Nat.lt_succ_of_lt hib,Nat.lt_succ_of_lt hic,wrap64_in (n1+1) (by omega) (by omega),show(n:Int)+1+1=n1+1 by omega]
    ·rintro s H' ⟨Hk,hJk,rfl,t0,t1,t2,t3,t5,t8,t10,t11,t13,t14,t15,t24,t25,t26,t43,t44,t45⟩
     obtain⟨⟨hCa,hCb,hCc⟩,hbk,hlk⟩:=hJ _ _ hJk
     have hia:=ai hCa
     have hib:=ai hCb
     have hic:=ai hCc
     simp -implicitDefEqProofs only[↓reduceIte,go_sem,Nat.reduceAdd,Nat.reduceLT,Nat.reduceEqDiff,Nat.reduceBEq,Int.reduceLE,Int.reduceAdd,t11,t45]
     refine⟨_,_,al.iter rfl hbk hlk hl0 hsb,Hk,by simpa[dQ]using hJk,rfl,?_⟩
     simp -implicitDefEqProofs only[↓reduceIte,go_sem,Nat.reduceLT,Nat.reduceEqDiff,reduceCtorEq,t0,t1,t2,t3,t5,t8,t13,t14,t15,t24,t25,t26,t43,t44,hw3,Nat.lt_add_one,←hlk,Nat.lt_succ_of_lt hia,Nat.lt_succ_of_lt hib,Nat.lt_succ_of_lt hic]
   ·rintro s H' ⟨Hk,hJk,rfl,t0,t1,t2,t3,t5,t8,t13,t14,t15,t24,t25,t26,t43,t44,t45⟩
    rw[List.take_length]at hJk
    obtain⟨⟨hCa,hCb,hCc⟩,hbk,hlk⟩:=hJ _ _ hJk
    have hia:=ai hCa
    have hib:=ai hCb
    have hic:=ai hCc
    simp -implicitDefEqProofs only[↓reduceIte,go_sem,Nat.reduceAdd,Nat.reduceLT,Nat.reduceEqDiff,Nat.reduceBEq,t44,t45,t26]
    refine⟨_,_,al.iter rfl hbk hlk hl0 hsb,Hk,by simpa[fA,hos]using hJk,rfl,?_⟩
    simp -implicitDefEqProofs only[↓reduceIte,go_sem,Nat.reduceLT,Nat.reduceEqDiff,reduceCtorEq,t0,t1,t2,t3,t5,t13,t14,t15,t24,t25,hw2,Nat.lt_add_one,←hlk,Nat.lt_succ_of_lt hia,Nat.lt_succ_of_lt hib,Nat.lt_succ_of_lt hic]
  ·rintro s H' ⟨Hk,hJk,rfl,t0,t1,t2,t3,t5,t13,t14,t15,t24,t25,t26⟩
   rw[List.take_length]at hJk
   obtain⟨⟨hCa,hCb,hCc⟩,hbk,hlk⟩:=hJ _ _ hJk
   have hia:=ai hCa
   have hib:=ai hCb
   have hic:=ai hCc
   simp -implicitDefEqProofs only[↓reduceIte,go_sem,Nat.reduceAdd,Nat.reduceLT,Nat.reduceEqDiff,Nat.reduceBEq,t25,t26,t15]
   refine⟨_,_,al.iter rfl hbk hlk hl0 hsb,Hk,by simpa using hJk,rfl,?_⟩
   simp -implicitDefEqProofs only[↓reduceIte,go_sem,Nat.reduceLT,Nat.reduceEqDiff,reduceCtorEq,t0,t1,t2,t3,t13,t14,hw,Nat.lt_add_one,←hlk,Nat.lt_succ_of_lt hia,Nat.lt_succ_of_lt hib,Nat.lt_succ_of_lt hic]
 ·rintro s H' ⟨Hk,hJk,rfl,t0,t1,t2,t3,t13,t14,t15⟩
  obtain⟨_,hbk,hlk⟩:=hJ _ _ hJk
  simp -implicitDefEqProofs only[↓reduceIte,go_sem,Nat.reduceLT,t14,t15]
  exact⟨_,_,al.iter rfl hbk hlk hl0 hsb,rfl,.inl ⟨Hk,by simpa[yG,bS]using hJk,rfl⟩⟩
theorem m2(gf:FuncId)(caps:List AV)(C:aa→Prop)(l:List Pl)(H:aa)(hs:mU Tryz.prog gf caps C (l.map fun v=>[v.av]))(hC:∀T,C (H++T))(hl:l.length≤1000000000):
  ag Tryz.prog 53 [.d (.v (.slice none 0 0)),.fn gf caps] H (.ok (.d (.list false (l.map Pl.ds)))) H:=by
 refine ag.aj (hint:=(fun t=>t==2000000)) Tryz.func53 (by kernel_rfl) rfl [4] (by kernel_rfl) (by decide) (by simp[Tryz.ntmps53]) ?_
 rw[Tryz.ntmps53]
 simp -implicitDefEqProofs only[↓reduceIte,go_sem,Nat.reduceAdd,Nat.reduceLT,Nat.reduceEqDiff,Nat.reduceBEq]
 refine gQ (fun _=>false) (fun k Hk=>Hk=H++[.box 39 1 0 1 [.sl (H.length+1) k 0 k],.arr 43 5 k ((l.take k).map Pl.ds)]) (fun _ _=>False) rfl rfl (al.dA _ _ H.length 39 1 0 1 [.d (.v (.slice none 0 0))] 0 _ 43 5 (by decide) (by simp) rfl rfl) (by simp -implicitDefEqProofs only[↓reduceIte,go_sem,Nat.reduceLT]) hs ?_ ?_ ?_ ?_ ?_ (fun _ _ h=>h.elim)
 ·intro v hv
  obtain⟨u,_,rfl⟩:=List.mem_map.1 hv
  exact⟨rfl,fun w hw=>by rw[List.mem_singleton.1 hw];rfl⟩
 ·simp -implicitDefEqProofs only[go_sem,List.take_zero]
 ·rintro k _ rfl
  exact⟨hC _,by simp -implicitDefEqProofs only[go_sem,Nat.reduceAdd]⟩
 ·rintro k hk _ rfl
  rw[List.length_map]at hk
  have e1:(l.take (k+1)).map Pl.ds=(l.take k).map Pl.ds++[l[k].ds]:=by rw[List.take_succ_eq_append_getElem hk,List.map_append];rfl
  have hlen:((l.take k).map Pl.ds).length=k:=by rw[List.length_map,List.length_take];omega
  rw[e1,List.getElem_map]
  generalize (l.take k).map Pl.ds=B at*
  generalize l[k]=v at*
  rw[show v.av= .agg [iA v.proj,bA v.late,.d (.list false (ints v.order)),iA v.rep,bA v.range]from rfl]
  simp -implicitDefEqProofs only[↓reduceIte,go_sem,ab,an,Nat.reduceAdd,Nat.reduceLT,Nat.reduceLeDiff,Nat.reduceEqDiff,hlen]
  refine⟨by omega,by omega,?_⟩
  refine tX.cut [.box 39 1 0 1 [.sl (H.length+1) (k+1) 0 (k+1)],.arr 43 5 (k+1) (B++[v.ds])] _ rfl rfl (by simp -implicitDefEqProofs only[go_sem,Nat.reduceAdd]) (by simp -implicitDefEqProofs only[go_sem,Nat.reduceAdd,Nat.reduceLT]) ?_
  rfl
 ·rintro _ rfl
  rw[List.length_map,List.take_length]
  simp -implicitDefEqProofs only[↓reduceIte,go_sem,ab,Nat.reduceAdd,Nat.reduceLT,Nat.reduceEqDiff,Nat.reduceBEq]
  refine au.ret ?_
  simp -implicitDefEqProofs only[↓reduceIte,go_sem,Nat.reduceLT,List.take_of_length_le (show(l.map Pl.ds).length≤l.length by simp)]
theorem pN(gf:FuncId)(caps:List AV)(C:aa→Prop)(l:List Pl)(H:aa)(hs:mU Tryz.prog gf caps C (l.map fun v=>[v.av]))(hC:∀T,C (H++T))(hl:l.length≤1000000000):
  ag Tryz.prog 27 [.fn gf caps] H (.ok (.d (.list false (l.map Pl.ds)))) H:=by
 refine ag.aj (hint:=(fun _=>false)) Tryz.func27 (by kernel_rfl) rfl [2] (by kernel_rfl) (by decide) (by simp[Tryz.ntmps27]) ?_
 rw[Tryz.ntmps27]
 simp -implicitDefEqProofs only[↓reduceIte,go_sem,Nat.reduceLT,reduceCtorEq]
 refine ae.ok (m2 gf caps C l _ hs hC hl) ?_
 simp -implicitDefEqProofs only[↓reduceIte,go_sem,Nat.reduceLT]
 refine au.aV ?_
 simp -implicitDefEqProofs only[↓reduceIte,go_sem,Nat.reduceLT]
theorem CJ(L:List Pl):yG L=L.map fun v=>[v.av]:=rfl
theorem vD(f:Fl)(hf:f.Ok)(q:Qu)(hq:q.Ok)(hl:(bS f q).length≤1000000000)(H:aa):ag Tryz.prog 11 [f.av,q.av] H (.ok (.d (.list false ((bS f q).map Pl.ds)))) H:=by
 obtain⟨v,ha⟩:=j0 f q hq (H++[fB f,qB q])
 have hs:=BM f hf q hq (H.length+2) (H.length+3) (H.length+5)
 rw[CJ]at hs
 have hc:=pN _ _ _ (bS f q) (H++[fB f,qB q,fB f,qB q,.arr 4 1 v [],rB q]) hs (fun T=>⟨by simp,by simp,by simp⟩) hl
 generalize bS f q=L at*
 refine ag.aj (hint:=(fun _=>false)) Tryz.func11 (by kernel_rfl) rfl [4] (by kernel_rfl) (by decide) (by simp[Tryz.ntmps11]) ?_
 rw[Tryz.ntmps11]
 simp -implicitDefEqProofs only[↓reduceIte,go_sem,ab,Nat.reduceAdd,Nat.reduceLT,Nat.reduceEqDiff,Fl.av,Fl.ds,Qu.av,Qu.ds]
 refine ae.ok (by exact ha) ?_
 simp -implicitDefEqProofs only[↓reduceIte,go_sem,Nat.reduceAdd,Nat.reduceLT]
 refine ae.ok (by exact hc) ?_
 simp -implicitDefEqProofs only[↓reduceIte,go_sem,Nat.reduceLT]
 refine au.ret ?_
 simp -implicitDefEqProofs only[↓reduceIte,go_sem,Nat.reduceLT]
theorem kJ{f:Fl}{q:Qu}{x:Pl}(h:x∈bS f q):∃(i:Nat) (p:Pj),x.proj=i∧f.projs[i]?=some p∧dB p q=true∧x.range∈dm q∧
  ((x.late=false∧x.order=upto q.pred.length∧x.rep=0)∨(x.late=true∧x.order∈bN q.pred.length∧1≤x.rep∧x.rep≤3)):=by
 unfold bS eh at h
 obtain⟨i,hi,h⟩:=List.mem_flatMap.1 h
 cases e:f.projs[i]? with
 |none=>rw[e]at h;cases h
 |some p=>
  rw[e]at h
  simp only at h
  unfold kA at h
  split at h
  ·rename_i hc
   obtain⟨r,hr,h⟩:=List.mem_flatMap.1 h
   unfold fA at h
   rcases List.mem_cons.1 h with rfl|h
   ·exact⟨i,p,rfl,e,hc,hr,.inl ⟨rfl,rfl,rfl⟩⟩
   ·obtain⟨o,ho,h⟩:=List.mem_flatMap.1 h
    unfold dQ at h
    simp only[List.mem_cons,List.not_mem_nil,or_false]at h
    rcases h with rfl|rfl|rfl<;>exact⟨i,p,rfl,e,hc,hr,.inr ⟨rfl,ho,by simp,by simp⟩⟩
  ·cases h
theorem ln{f:Fl}{q:Qu}{x:Pl}(h:x∈bS f q):x.order.length=q.pred.length:=by
 obtain⟨i,p,_,_,_,_,h|h⟩:=kJ h
 ·rw[h.2.1,fD]
 ·exact(eZ _).2.2.2 _ h.2.1
def dc(f:Fl)(q:Qu)(x:Pl):Nat:=match f.projs[x.proj.toNat]? with|some p=>iF p q x|none=>0
def dX(f:Fl)(q:Qu)(o:Option (Pl×Nat))(x:Pl):Option (Pl×Nat):=match o with
 |none=>some (x,dc f q x)
 |some (b,n)=>if dc f q x<n then some (x,dc f q x)else some (b,n)
def jH(f:Fl)(q:Qu)(L:List Pl):Option (Pl×Nat):=L.foldl (dX f q) none
def pq:List AV:=[iA 0,bA false,.d (.v (.slice none 0 0)),iA 0,bA false]
def CN:Option (Pl×Nat)→List AV
 |none=>pq
 |some (b,_)=>b.ds.map .d
def xS(o:Option (Pl×Nat)):Nat:=match o with|none=>0|some (_,n)=>n
def bO(o:Option (Pl×Nat)):aa:=[.box 43 5 0 1 (CN o),.box 54 1 0 1 [du (xS o)],.box 4 1 0 1 [bA o.isSome]]
theorem Ba(o:Option (Pl×Nat)):(bO o).length=3:=rfl
theorem Cb(o:Option (Pl×Nat))(m:Nat):(bO o).all (az.below m)=true:=by
 cases o with
 |none=>rfl
 |some x=>obtain⟨⟨a,b,c,d,e⟩,n⟩:=x;rfl
theorem y8(f:Fl)(q:Qu)(x:Pl):dc f q x<18446744073709551616:=by unfold dc;split;exact lG _ _ _ _;omega
theorem Ap(f:Fl)(q:Qu)(L:List Pl):xS (jH f q L)<18446744073709551616:=by
 have:∀(L:List Pl) (o:Option (Pl×Nat)),xS o<18446744073709551616→xS (L.foldl (dX f q) o)<18446744073709551616:=by
  intro L
  induction L with
  |nil=>exact fun o h=>h
  |cons x L ih=>
   intro o h
   refine ih _ ?_
   have:=y8 f q x
   unfold dX
   split
   ·exact this
   ·split
    ·exact this
    ·exact h
 exact this L none (by simp[xS])
def Dx(o:Option (Pl×Nat)):kV:=match o with
 |none=> .ok (.aZ [.agg pq,du 0,iA 6])
 |some (b,n)=> .ok (.aZ [b.av,du n,iA 0])
theorem pf(f:Fl)(hf:f.Ok)(q:Qu)(hq:q.Ok)(hl:(bS f q).length≤1000000000)(H:aa):ag Tryz.prog 21 [f.av,q.av] H (Dx (jH f q (bS f q))) H:=by
 obtain⟨v,ha⟩:=j0 f q hq (H++([fB f,qB q,.box 43 5 0 1 pq]++bO none))
 have hs:=BM f hf q hq (H.length+6) (H.length+7) (H.length+9)
 have hpl:∀x∈bS f q,∃(i:Nat) (p:Pj),x.proj=i∧f.projs[i]?=some p∧dc f q x=iF p q x∧∀H,ag Tryz.prog 17 [p.av,q.av,x.av] H (.ok (du (iF p q x))) H:=fun x hx=>by
  have ho:=ln hx
  obtain⟨i,p,h1,h2,_,_,h3⟩:=kJ hx
  refine⟨i,p,h1,h2,by simp[dc,h1,h2],fun H=>mz p (hf.all _ (List.mem_of_getElem? h2)) q hq x (by have:=hq.pred;omega) ?_ H⟩
  rcases h3 with h3|h3
  ·rw[h3.2.2];exact⟨by omega,by omega⟩
  ·exact⟨by omega,by omega⟩
 have hlt:=Ap f q
 have hbt:∀k (hk:k<(bS f q).length),jH f q ((bS f q).take (k+1))=dX f q (jH f q ((bS f q).take k)) (bS f q)[k]:=fun k hk=>by
  unfold jH
  rw[List.take_succ_eq_append_getElem hk,List.foldl_append];rfl
 have hfl:=hf.len
 generalize bS f q=L at*
 refine ag.cC (hint:=fun t=>t==2000000) Tryz.func21 (by kernel_rfl) rfl [.cell 4 43,.tmp 5,.tmp 6] (by kernel_rfl) (by simp[Tryz.ntmps21]) ?_
 rw[Tryz.ntmps21]
 simp -implicitDefEqProofs only[↓reduceIte,go_sem,ab,an,Nat.reduceAdd,Nat.reduceLT,Nat.reduceEqDiff,Nat.reduceBEq,Fl.av,Fl.ds,Qu.av,Qu.ds]
 refine ae.ok (by exact ha) ?_
 simp -implicitDefEqProofs only[go_sem]
 refine gQ (fun _=>false) (fun k Hk=>Hk=H++([fB f,qB q,.box 43 5 0 1 pq]++(bO (jH f q (L.take k))++[fB f,qB q,.arr 4 1 v [],rB q]))) (fun _ _=>False) (by kernel_rfl) (by kernel_rfl) (al.refl _ _) (by simp -implicitDefEqProofs only[↓reduceIte,go_sem,Nat.reduceAdd,Nat.reduceLT,Ba]) hs ?_ ?_ ?_ ?_ ?_ (fun _ _ h=>h.elim)
 ·intro v hv
  obtain⟨u,_,rfl⟩:=List.mem_map.1 hv
  exact⟨rfl,fun w hw=>by rw[List.mem_singleton.1 hw];rfl⟩
 ·simp[bO,jH]
 ·rintro k _ rfl
  exact⟨⟨by simp[bO],by simp[bO],by simp[bO]⟩,by simp[bO]⟩
 ·rintro k hk _ rfl
  have hk:k<L.length:=by simpa[yG]using hk
  have hxi:(yG L)[k]'(by simpa[yG]using hk)=[L[k].av]:=by simp[yG]
  obtain⟨i,p,h1,h2,h3,h4⟩:=hpl L[k] (List.getElem_mem hk)
  have hi:=(List.getElem?_eq_some_iff.1 h2).1
  have hx:(f.projs.map Pj.ds)[i]?=some p.ds:=by simp[h2]
  have hb:=hbt k hk
  have hn:=hlt (L.take k)
  rw[hxi,hb]
  generalize jH f q (L.take k)=o at*
  generalize L[k]=x at*
  clear hb hbt hxi
  obtain⟨proj,late,order,rep,range⟩:=x
  simp only at h1
  subst h1
  rw[show(Pl.mk i late order rep range).av= .agg [iA i,bA late,.d (.list false (ints order)),iA rep,bA range]from rfl]
  simp -implicitDefEqProofs only[↓reduceIte,go_sem,an,Nat.reduceAdd,Nat.reduceLT,Nat.reduceEqDiff,bO]
  refine aQ K.mixed (by kernel_rfl) ?_
  simp -implicitDefEqProofs only[↓reduceIte,go_sem,ab,Nat.reduceAdd,Nat.reduceLT,Nat.reduceLeDiff,Nat.reduceEqDiff,Fl.ds,Qu.ds,hx,Pj.ds]
  refine ae.ok (by exact h4 _) ?_
  generalize iF p q ⟨i,late,order,rep,range⟩=c at*
  generalize hb2:dX f q o ⟨i,late,order,rep,range⟩=o2 at*
  have ho2:=hb2.symm
  unfold dX at ho2
  rw[h3]at ho2
  cases o
  case' none=>simp -implicitDefEqProofs only[↓reduceIte,go_sem,ab,an,Nat.reduceAdd,Nat.reduceLT,Nat.reduceEqDiff,bO,xS,CN,pq]
  case' some b=>
   obtain⟨⟨b1,b2,b3,b4,b5⟩,n⟩:=b
   simp only[xS]at hn
   by_cases hc:c<n
   case' pos=>
    simp only[if_pos hc]at ho2
    simp -implicitDefEqProofs only[↓reduceIte,go_sem,ab,an,Nat.reduceAdd,Nat.reduceLT,Nat.reduceEqDiff,reduceCtorEq,bO,xS,CN,Pl.ds,hc]
   case' neg=>
    simp only[if_neg hc]at ho2
    simp -implicitDefEqProofs only[↓reduceIte,go_sem,ab,Nat.reduceAdd,Nat.reduceLT,Nat.reduceEqDiff,reduceCtorEq,bO,xS,CN,Pl.ds,hc]
  all_goals
   refine tX.cut ([fB f,qB q,.box 43 5 0 1 pq]++(bO o2++[fB f,qB q,.arr 4 1 v [],rB q])) _ (by rw[ho2];rfl) rfl (by simp -implicitDefEqProofs only[go_sem,Nat.reduceAdd,Ba]) (by rw[List.all_append,List.all_append,Cb];simp -implicitDefEqProofs only[go_sem,Nat.reduceAdd,Fl.ds,Qu.ds,pq]) ?_
   rfl
 ·rintro _ rfl
  rw[show(yG L).length=L.length by simp[yG],List.take_length]
  have hn:=hlt L
  generalize jH f q L=o at*
  cases o with
  |none=>
   simp -implicitDefEqProofs only[↓reduceIte,go_sem,ab,an,Nat.reduceAdd,Nat.reduceLT,Nat.reduceEqDiff,Nat.reduceBEq,bO,xS,CN,pq,Option.isSome_none]
   refine cN.ret ?_
   simp -implicitDefEqProofs only[↓reduceIte,go_sem,ab,Nat.reduceAdd,Nat.reduceLT,Nat.reduceLeDiff,Nat.reduceEqDiff,bI,cO,pq]
   rfl
  |some b=>
   obtain⟨⟨b1,b2,b3,b4,b5⟩,n⟩:=b
   simp -implicitDefEqProofs only[↓reduceIte,go_sem,ab,Nat.reduceAdd,Nat.reduceLT,Nat.reduceEqDiff,Nat.reduceBEq,bO,xS,CN,Pl.ds,pq,Option.isSome_some]
   have hE:∀cs,Ext (H++[fB f,qB q,.dead 0,.box 43 5 0 1 [iA b1,bA b2,.d (.list false (ints b3)),iA b4,bA b5],.box 54 1 0 1 [du n],.box 4 1 0 1 [bA true],fB f,qB q,.arr 4 1 v [],rB q])
     (H++[fB f,qB q,.box 43 5 0 1 cs,.box 43 5 0 1 [iA b1,bA b2,.d (.list false (ints b3)),iA b4,bA b5],.box 54 1 0 1 [du n],.box 4 1 0 1 [bA true],fB f,qB q,.arr 4 1 v [],rB q]):=fun cs=>
    Ext.db H ⟨fun _=>rfl,fun _=>rfl,fun h=>(by cases h),fun _=>rfl,fun _=>rfl,fun _=>rfl,fun _=>rfl,fun _=>rfl,fun _=>rfl,fun _=>rfl,trivial⟩
   refine pY [none,none,some true] 2 _ K.mixed (by kernel_rfl) (by kernel_rfl) (by kernel_rfl) (hE _) ?_
   simp -implicitDefEqProofs only[↓reduceIte,go_sem,ab,an,Nat.reduceAdd,Nat.reduceLT,Nat.reduceEqDiff]
   refine⟨hE _,?_⟩
   refine cN.ret ?_
   simp -implicitDefEqProofs only[↓reduceIte,go_sem,ab,Nat.reduceAdd,Nat.reduceLT,Nat.reduceLeDiff,Nat.reduceEqDiff,bI,cO]
   rfl
def oG(f:Fl)(q:Qu)(k:Nat):Nat:=((f.projs.take k).filter fun p=>dB p q).length
def tx(q:Qu):Nat:=(dm q).length* (1+3* (bN q.pred.length).length)
theorem pZ(i:Nat)(r:Bool):∀os:List (List Int),(os.flatMap (dQ i r)).length=3* os.length
 |[]=>rfl
 |o::os=>by rw[List.flatMap_cons,List.length_append,pZ i r os,List.length_cons];simp[dQ];omega
theorem xf(q:Qu)(i:Nat)(p:Pj):(kA q i p).length=if dB p q then tx q else 0:=by
 have:∀rs:List Bool,(rs.flatMap (fA i q.pred.length)).length=rs.length* (1+3* (bN q.pred.length).length):=by
  intro rs
  induction rs with
  |nil=>simp
  |cons r rs ih=>rw[List.flatMap_cons,List.length_append,ih,List.length_cons,Nat.succ_mul rs.length,show(fA i q.pred.length r).length=1+3* (bN q.pred.length).length from by unfold fA;rw[List.length_cons,pZ];omega];omega
 unfold kA
 split
 ·exact this _
 ·rfl
theorem qg(f:Fl)(q:Qu){k:Nat}(h:k<f.projs.length):oG f q (k+1)=oG f q k+if dB f.projs[k] q then 1 else 0:=by
 unfold oG
 rw[List.take_succ_eq_append_getElem h,List.filter_append,List.length_append]
 cases hc:dB f.projs[k] q<;>simp[hc]
theorem qX(f:Fl)(q:Qu)(k:Nat):oG f q k≤k:=Nat.le_trans (List.length_filter_le _ _) (List.length_take_le _ _)
theorem nX(f:Fl)(q:Qu):∀k,k≤f.projs.length→(eh f q k).length=oG f q k* tx q
 |0,_=>by simp[eh,oG]
 |k+1,h=>by
  rw[jb f q (by omega),List.length_append,nX f q k (by omega),xf,qg f q (by omega),Nat.add_mul]
  split<;>simp
theorem jg(q:Qu):(dm q).length=if 0<q.bu.length then 2 else 1:=by unfold dm;split<;>rfl
theorem Br(q:Qu):0<tx q:=by
 unfold tx
 rw[jg]
 exact Nat.mul_pos (by split<;>omega) (by omega)
theorem CZ(q:Qu):tx q≤146:=by
 have h:=(eZ q.pred.length).2.2.1
 unfold tx
 rw[jg]
 have:(if 0<q.bu.length then 2 else 1)≤2:=by split<;>omega
 exact Nat.le_trans (Nat.mul_le_mul this (show 1+3* (bN q.pred.length).length≤73 by omega)) (by omega)
theorem kh(f:Fl)(q:Qu):(bS f q).length=oG f q f.projs.length* tx q:=nX f q _ (Nat.le_refl _)
theorem zY(f:Fl)(q:Qu)(h:f.projs.length≤3):(bS f q).length≤438:=by
 rw[kh]
 exact Nat.le_trans (Nat.mul_le_mul (Nat.le_trans (qX _ _ _) h) (CZ q)) (by omega)
theorem vC(f:Fl)(q:Qu)(L:List Pl):match jH f q L with|none=>L=[]|some (b,n)=>b∈L∧n=dc f q b∧∀x∈L,n≤dc f q x:=by
 have:∀(L M:List Pl) (o:Option (Pl×Nat)),(match o with|none=>M=[]|some (b,n)=>b∈M∧n=dc f q b∧∀x∈M,n≤dc f q x)→match L.foldl (dX f q) o with|none=>M++L=[]|some (b,n)=>b∈M++L∧n=dc f q b∧∀x∈M++L,n≤dc f q x:=by
  intro L
  induction L with
  |nil=>intro M o h;simpa using h
  |cons x L ih=>
   intro M o h
   have:=ih (M++[x]) (dX f q o x) ?_
   ·rw[List.append_assoc]at this;exact this
   ·cases o with
    |none=>
     simp only at h
     subst h
     exact⟨by simp,rfl,fun y hy=>by simp at hy;rw[hy];exact Nat.le_refl _⟩
    |some bn=>
     obtain⟨b,n⟩:=bn
     obtain⟨h1,h2,h3⟩:=h
     unfold dX
     by_cases hc:dc f q x<n
     ·simp only[if_pos hc]
      refine⟨by simp,by first|trivial|rfl,fun y hy=>?_⟩
      rcases List.mem_append.1 hy with hy|hy
      ·have:=h3 y hy;omega
      ·rw[List.mem_singleton.1 hy];exact Nat.le_refl _
     ·simp only[if_neg hc]
      refine⟨List.mem_append_left _ h1,h2,fun y hy=>?_⟩
      rcases List.mem_append.1 hy with hy|hy
      ·exact h3 y hy
      ·rw[List.mem_singleton.1 hy];omega
 exact this L [] none rfl
def Qu.small(n:Nat)(q:Qu):Prop:=q.pred.length≤n∧q.bu.length≤n∧q.aW.length≤n∧q.cT.length≤n
instance (n:Nat) (q:Qu):Decidable (q.small n):=by unfold Qu.small;infer_instance
theorem Qu.small.ok{n:Nat}{q:Qu}(h:q.small n)(hn:n≤100):q.Ok:=by obtain⟨h1,h2,h3,h4⟩:=h;exact⟨by omega,by omega,by omega,by omega⟩
theorem rF(q:Qu)(H:aa):ag Tryz.prog 10 [q.av] H (.ok (bA (decide (q.small 6)))) H:=by
 have c1:∀n:Nat,((n:Int)≤6)=(n≤6):=fun n=>by simp;omega
 unfold Qu.small
 refine ag.aj (hint:=(fun _=>false)) Tryz.func10 (by kernel_rfl) rfl [2] (by kernel_rfl) (by decide) (by simp[Tryz.ntmps10]) ?_
 rw[Tryz.ntmps10]
 simp -implicitDefEqProofs only[↓reduceIte,go_sem,ab,Nat.reduceAdd,Nat.reduceLT,Nat.reduceLeDiff,Nat.reduceEqDiff,Qu.av,Qu.ds]
 by_cases h1:q.pred.length≤6
 case' pos=>
  by_cases h2:q.bu.length≤6
  case' pos=>
   by_cases h3:q.aW.length≤6
   case' pos=>by_cases h4:q.cT.length≤6
 all_goals
  simp -implicitDefEqProofs only[↓reduceIte,go_sem,ab,Nat.reduceAdd,Nat.reduceLT,Nat.reduceLeDiff,Nat.reduceEqDiff,reduceCtorEq,List.length_map,ay, *]
  refine au.ret ?_
  simp -implicitDefEqProofs only[↓reduceIte,go_sem,Nat.reduceLT]<;>simp[*]
theorem sJ(a b:Pl)(ha:a.order.length≤1000000000)(H:aa):ag Tryz.prog 12 [a.av,b.av] H (.ok (bA (decide (a=b)))) H:=by
 obtain⟨p1,l1,o1,r1,g1⟩:=a
 obtain⟨p2,l2,o2,r2,g2⟩:=b
 simp only at ha
 rw[show decide (Pl.mk p1 l1 o1 r1 g1=Pl.mk p2 l2 o2 r2 g2)=decide (p1=p2∧l1=l2∧o1=o2∧r1=r2∧g1=g2)from by simp]
 have hol:o1=o2→(o1.length:Int)=o2.length:=fun h=>by rw[h]
 have qb:∀a b:Bool,(a !=b)= !decide (a=b):=by decide
 refine ag.aj (hint:=(fun _=>false)) Tryz.func12 (by kernel_rfl) rfl [4] (by kernel_rfl) (by decide) (by simp[Tryz.ntmps12]) ?_
 rw[Tryz.ntmps12]
 simp -implicitDefEqProofs only[↓reduceIte,go_sem,ab,Nat.reduceAdd,Nat.reduceLT,Nat.reduceLeDiff,Nat.reduceEqDiff,Pl.av,Pl.ds]
 by_cases h1:p1=p2
 case' pos=>
  by_cases h2:l1=l2
  case' pos=>
   by_cases h3:r1=r2
   case' pos=>
    by_cases h4:g1=g2
    case' pos=>by_cases h5:(o1.length:Int)=o2.length
 case pos=>
  subst h1 h2 h3 h4
  simp -implicitDefEqProofs only[↓reduceIte,go_sem,ab,Nat.reduceAdd,Nat.reduceLT,Nat.reduceLeDiff,Nat.reduceEqDiff,reduceCtorEq,h5,qb,ay]
  have h5:o1.length=o2.length:=by omega
  refine bj (fun k s H'=>o1.take k=o2.take k∧H'=H++[.box 43 5 0 1 [iA p1,bA l1,.d (.list false (ints o1)),iA r1,bA g1],.box 43 5 0 1 [iA p1,bA l1,.d (.list false (ints o2)),iA r1,bA g1]]∧s 2= .ptr H.length 0 0 0∧s 3= .ptr (H.length+1) 0 0 0∧s 5=iA k) o1.length (by omega) (al.refl _ _) ?_ ?_ ?_
  ·refine⟨rfl,rfl,?_⟩
   simp -implicitDefEqProofs only[↓reduceIte,go_sem,Nat.reduceLT,Nat.reduceEqDiff]
  ·rintro k s H' hk hw ⟨he,rfl,t2,t3,t5⟩
   have hx:=ck o1 k hk
   have hy:=ck o2 k (by omega)
   have e1:=List.take_succ_eq_append_getElem hk
   have e2:=List.take_succ_eq_append_getElem (show k<o2.length by omega)
   have hne:¬o1[k]=o2[k]→¬o1=o2:=fun h e=>by subst e;exact h rfl
   generalize o1[k]=x at*
   generalize o2[k]=y at*
   simp -implicitDefEqProofs only[↓reduceIte,go_sem,ab,Nat.reduceAdd,Nat.reduceLT,Nat.reduceLeDiff,Nat.reduceEqDiff,t2,t5,ay,hk]
   refine aQ K.mixed (by kernel_rfl) ?_
   by_cases hxy:x=y
   ·simp -implicitDefEqProofs only[↓reduceIte,go_sem,ab,Nat.reduceAdd,Nat.reduceLT,Nat.reduceLeDiff,Nat.reduceEqDiff,t2,t3,t5,hx,hy,hxy]
    refine c7.same ⟨by rw[e1,e2,he,hxy],rfl,?_⟩
    simp -implicitDefEqProofs only[↓reduceIte,go_sem,Nat.reduceLT,Nat.reduceEqDiff,t2,t3,hw]
   ·simp -implicitDefEqProofs only[↓reduceIte,go_sem,ab,Nat.reduceAdd,Nat.reduceLT,Nat.reduceLeDiff,Nat.reduceEqDiff,t2,t3,t5,hx,hy,hxy]
    refine au.ret ?_
    simp -implicitDefEqProofs only[↓reduceIte,go_sem,Nat.reduceLT]
    simp[hne hxy]
  ·rintro s H' ⟨he,rfl,t2,t3,t5⟩
   rw[List.take_length,h5,List.take_length]at he
   simp -implicitDefEqProofs only[↓reduceIte,go_sem,ab,Nat.reduceAdd,Nat.reduceLT,Nat.reduceLeDiff,Nat.reduceEqDiff,t2,t5,ay]
   refine au.ret ?_
   simp -implicitDefEqProofs only[↓reduceIte,go_sem,Nat.reduceLT]
   simp[he]
 all_goals
  simp -implicitDefEqProofs only[↓reduceIte,go_sem,ab,Nat.reduceAdd,Nat.reduceLT,Nat.reduceLeDiff,Nat.reduceEqDiff,reduceCtorEq,ay, *]
  refine au.ret ?_
  simp -implicitDefEqProofs only[↓reduceIte,go_sem,Nat.reduceLT]<;>simp[*]
 exact fun h=>absurd (hol h) h5
theorem C3{L:List Pl}{k:Nat}(h:k<L.length):(L.map Pl.ds)[k]?=some L[k].ds:=by simp[h]
def uX(n:Nat)(x:Int):Bool:=decide (0≤x)&&decide (x<n)
theorem j1{α:Type}(p:α→Bool)(l:List α){k:Nat}(h:k<l.length):(l.take (k+1)).all p=((l.take k).all p&&p l[k]):=by rw[List.take_succ_eq_append_getElem h,List.all_append];simp
theorem se{t:gr}{q:Qu}(h:(n7 t).2=true)(h1:q.gk.all (uX t.kinds.length)=true)(h2:q.pred.all (fun a=>uX t.kinds.length a.fM)=true):0<(bS (n7 t).1 q).length:=by
 obtain⟨g1,g2,g3⟩:=ma h
 have hm:=kI g3
 have hk:=(iL hm.check).2.1
 have hin:∀x:Int,uX t.kinds.length x=true→x∈(eS t.rows t.kinds (jZ t.kinds) [] 0).1.aW:=fun x hx=>by
  rw[hm.eq]
  unfold uX at hx
  simp only[Bool.and_eq_true,decide_eq_true_eq]at hx
  simp only[jZ,Nat.min_eq_left (show t.kinds.length≤9 by omega),upto]
  exact List.mem_map.2 ⟨x.toNat,List.mem_range.2 (by omega),by omega⟩
 rw[g1,kh]
 refine Nat.mul_pos ?_ (Br q)
 have hc:dB (eS t.rows t.kinds (jZ t.kinds) [] 0).1 q=true:=by
  unfold dB
  rw[Bool.and_eq_true,Bool.not_eq_true',Bool.not_eq_true',List.any_eq_false,List.any_eq_false]
  rw[List.all_eq_true]at h1 h2
  exact⟨fun x hx=>by simp[hin x (h1 x hx)],fun a ha=>by simp[hin _ (h2 a ha)]⟩
 unfold oG
 simp only[cZ,List.length_cons,List.take_succ_cons,List.filter_cons,hc,if_true]
 omega
theorem Bd(o:Option (Pl×Nat)):Dx o= .ok (.aZ [.agg (CN o),du (xS o),iA (if o.isSome then 0 else 6)]):=by
 cases o with
 |none=>rfl
 |some x=>obtain⟨b,n⟩:=x;rfl
theorem pn(t:gr)(ht:t.Ok)(q:Qu)(H:aa):ag Tryz.prog 7 [t.av,q.av] H (.ok (bA true)) H:=by
 have hof:=fun H=>yW t ht H
 have hfk:=Dq (t:=t)
 have hfm:=ma (t:=t)
 have hf3:=ji t 2
 have hfc:=se (t:=t) (q:=q)
 have hks:=ht.kinds
 generalize n7 t=fb at*
 obtain⟨f,b⟩:=fb
 simp only at hof hfk hfm hfc
 have hsm:=fun H=>rF q H
 refine ag.aj (hint:=(fun _=>false)) Tryz.func7 (by kernel_rfl) rfl [4] (by kernel_rfl) (by decide) (by simp[Tryz.ntmps7]) ?_
 rw[Tryz.ntmps7]
 simp -implicitDefEqProofs only[↓reduceIte,go_sem,Nat.reduceAdd,Nat.reduceLT,Nat.reduceEqDiff,gr.av,gr.ds,Qu.av,Qu.ds]
 refine ae.ok (su _) ?_
 simp -implicitDefEqProofs only[↓reduceIte,go_sem,ab,Nat.reduceAdd,Nat.reduceLT,Nat.reduceEqDiff]
 refine ae.ok (hof _) ?_
 cases b with
 |false=>
  simp -implicitDefEqProofs only[↓reduceIte,go_sem,an,Nat.reduceAdd,Nat.reduceLT,Nat.reduceEqDiff,Fl.av,Fl.ds]
  refine au.ret ?_
  simp -implicitDefEqProofs only[↓reduceIte,go_sem,Nat.reduceLT]
 |true=>
 simp -implicitDefEqProofs only[↓reduceIte,go_sem,ab,an,Nat.reduceAdd,Nat.reduceLT,Nat.reduceEqDiff,Fl.av,Fl.ds]
 refine ae.ok (hsm _) ?_
 by_cases hs:q.small 6
 case neg=>
  simp -implicitDefEqProofs only[↓reduceIte,go_sem,Nat.reduceLT,Nat.reduceEqDiff,reduceCtorEq,hs]
  refine au.ret ?_
  simp -implicitDefEqProofs only[↓reduceIte,go_sem,Nat.reduceLT]
 have hq:=hs.ok (by omega)
 have hok:=hfk rfl
 have hfc:=hfc rfl
 have hfl:f.projs.length≤3:=by rw[(hfm rfl).1];exact hf3
 clear hof hfk hfm hf3 hsm
 have hle:=zY f q hfl
 have hpl:=fun H=>vD f hok q hq (by omega) H
 have hbe:=fun H=>pf f hok q hq (by omega) H
 rw[Bd]at hbe
 obtain⟨nn,hord⟩:=gL q.pred.length (by have:=hq.pred;omega)
 have hsp:=vC f q (bS f q)
 have hlen:=kh f q
 have hcost:∀x∈bS f q,∃(i:Nat) (p:Pj),x.proj=i∧f.projs[i]?=some p∧dc f q x=iF p q x∧x.order.length≤100∧∀H,ag Tryz.prog 17 [p.av,q.av,x.av] H (.ok (du (iF p q x))) H:=fun x hx=>by
  have ho:=ln hx
  obtain⟨i,p,h1,h2,_,_,h3⟩:=kJ hx
  have:=hq.pred
  refine⟨i,p,h1,h2,by simp[dc,h1,h2],by omega,fun H=>mz p (hok.all _ (List.mem_of_getElem? h2)) q hq x (by omega) ?_ H⟩
  rcases h3 with h3|h3
  ·rw[h3.2.2];exact⟨by omega,by omega⟩
  ·exact⟨by omega,by omega⟩
 generalize bS f q=L at*
 generalize jH f q L=o at*
 have hos:o.isSome=decide (0<L.length):=by
  cases o with
  |none=>simp only at hsp;subst hsp;rfl
  |some x=>obtain⟨b,n⟩:=x;simp only at hsp;have:=List.length_pos_of_mem hsp.1;simp;omega
 simp -implicitDefEqProofs only[↓reduceIte,go_sem,ab,Nat.reduceAdd,Nat.reduceLT,Nat.reduceEqDiff,reduceCtorEq,hs]
 refine ae.ok (hpl _) ?_
 simp -implicitDefEqProofs only[↓reduceIte,go_sem,ab,Nat.reduceAdd,Nat.reduceLT,Nat.reduceEqDiff]
 refine ae.ok (hbe _) ?_
 obtain⟨d0,d1,d2,d3,d4,hpc⟩:∃d0 d1 d2 d3 d4:D,CN o=[.d d0,.d d1,.d d2,.d d3,.d d4]:=by
  cases o with
  |none=>exact⟨_,_,_,_,_,rfl⟩
  |some x=>exact⟨_,_,_,_,_,rfl⟩
 have hxs:∀b n,o=some (b,n)→CN o=b.ds.map .d∧xS o=n:=fun b n e=>by subst e;exact⟨rfl,rfl⟩
 have hL0:L.length=0∨∃b n,o=some (b,n)∧b∈L∧∀x∈L,n≤dc f q x:=by
  cases o with
  |none=>simp only at hsp;subst hsp;exact .inl rfl
  |some x=>obtain⟨b,n⟩:=x;exact .inr ⟨b,n,rfl,hsp.1,hsp.2.2⟩
 rw[hpc]at hxs⊢
 generalize xS o=xn at*
 rw[hos]
 clear hsp hpl hbe
 simp -implicitDefEqProofs only[↓reduceIte,go_sem,an,Nat.reduceAdd,Nat.reduceLT,Nat.reduceEqDiff]
 obtain⟨tb,htb⟩:∃tb,tb=az.box 26 6 0 1 (t.ds.map .d):=⟨_,rfl⟩
 obtain⟨xb,hxb⟩:∃xb,xb=az.box 43 5 0 1 [.d d0,.d d1,.d d2,.d d3,.d d4]:=⟨_,rfl⟩
 refine bj (fun k s H'=>H'=H++[tb,qB q,fB f,xb]∧s 2= .ptr H.length 0 0 0∧s 3= .ptr (H.length+1) 0 0 0∧s 5=bA true∧s 6= .ptr (H.length+2) 0 0 0∧s 8= .d (.list false (L.map Pl.ds))∧s 9= .ptr (H.length+3) 0 0 0∧s 10=du xn∧s 11=iA (if decide (0<L.length)=true then 0 else 6)∧s 12=iA (oG f q k)∧s 13=iA k) f.projs.length (by omega) (al.refl _ _) ?_ ?_ ?_
 ·refine⟨by rw[htb,hxb];rfl,?_⟩
  simp -implicitDefEqProofs only[↓reduceIte,go_sem,Nat.reduceLT,Nat.reduceEqDiff]
  rfl
 ·rintro k s H' hk hw ⟨rfl,t2,t3,t5,t6,t8,t9,t10,t11,t12,t13⟩
  have hx:(f.projs.map Pj.ds)[k]?=some f.projs[k].ds:=by simp[hk]
  have e1:=qg f q hk
  have hcl:=qX f q k
  have hcv:=fun H=>my f.projs[k] (hok.all _ (List.getElem_mem hk)).aW q hq H
  generalize oG f q k=m at*
  generalize f.projs[k]=p at*
  simp -implicitDefEqProofs only[↓reduceIte,go_sem,ab,Nat.reduceAdd,Nat.reduceLT,Nat.reduceEqDiff,t6,t13,Fl.ds,List.length_map,hk]
  refine aQ K.mixed (by kernel_rfl) ?_
  simp -implicitDefEqProofs only[↓reduceIte,go_sem,ab,Nat.reduceAdd,Nat.reduceLT,Nat.reduceEqDiff,t3,t6,t13,Fl.ds,Qu.ds,hx,Pj.ds]
  refine ae.ok (by exact hcv _) ?_
  cases hc:dB p q
  case' true=>
   rw[hc,if_pos rfl]at e1
   simp -implicitDefEqProofs only[↓reduceIte,go_sem,Nat.reduceLT,Nat.reduceEqDiff,t12,t13]
  case' false=>
   rw[hc,if_neg (by simp)]at e1
   simp -implicitDefEqProofs only[↓reduceIte,go_sem,Nat.reduceLT,Nat.reduceEqDiff,t13]
  all_goals
   refine c7.same ⟨rfl,?_⟩
   rw[e1]
   simp -implicitDefEqProofs only[↓reduceIte,go_sem,Nat.reduceLT,Nat.reduceEqDiff,t2,t3,t5,t6,t8,t9,t10,t11,t12,hw]
  rw[wrap64_in _ (by omega) (by omega)]
 rintro s H' ⟨rfl,t2,t3,t5,t6,t8,t9,t10,t11,t12,t13⟩
 have hcl:=qX f q f.projs.length
 generalize oG f q f.projs.length=m at*
 simp -implicitDefEqProofs only[↓reduceIte,go_sem,ab,Nat.reduceAdd,Nat.reduceLT,Nat.reduceLeDiff,Nat.reduceEqDiff,t3,t6,t12,t13,Fl.ds,Qu.ds,List.length_map]
 refine ae.ok (hord _) ?_
 have hol:=(eZ q.pred.length).2.2.1
 have hpp:tx q=(dm q).length* (1+3* (bN q.pred.length).length):=rfl
 rw[hpp,jg]at hlen
 have hol2:((bN q.pred.length).map eA).length=(bN q.pred.length).length:=by simp
 generalize (bN q.pred.length).map eA=od at*
 generalize (bN q.pred.length).length=on at*
 have hmx:m* (1+3* on)≤3* 73:=Nat.mul_le_mul (by omega) (by omega)
 have w1:IntKind.i64.wrap (3* (on:Int))=3* (on:Int):=wrap64_in _ (by omega) (by omega)
 have w2:IntKind.i64.wrap (1+3* (on:Int))=1+3* (on:Int):=wrap64_in _ (by omega) (by omega)
 have w3:IntKind.i64.wrap ((m:Int)* (1+3* (on:Int)))=((m* (1+3* on):Nat):Int):=by
  rw[show(m:Int)* (1+3* (on:Int))=((m* (1+3* on):Nat):Int) by simp]
  exact wrap64_in _ (by omega) (by omega)
 have hjl:=hs.2.1
 obtain⟨mx,hmxe⟩:∃mx,mx=m* (1+3* on):=⟨_,rfl⟩
 rw[←hmxe]at w3 hmx
 simp -implicitDefEqProofs only[↓reduceIte,go_sem,ab,Nat.reduceAdd,Nat.reduceLT,Nat.reduceLeDiff,Nat.reduceEqDiff,hol2,w1,w2,w3,t3,Qu.ds,List.length_map]
 refine gP (fun s H'=>H'=H++[tb,qB q,fB f,xb]∧s 2= .ptr H.length 0 0 0∧s 3= .ptr (H.length+1) 0 0 0∧s 5=bA true∧s 6= .ptr (H.length+2) 0 0 0∧s 8= .d (.list false (L.map Pl.ds))∧s 9= .ptr (H.length+3) 0 0 0∧s 10=du xn∧s 11=iA (if decide (0<L.length)=true then 0 else 6)∧s 14=iA L.length) rfl ?_ ?_
 ·by_cases hj:0<(q.bu.length:Int)
  ·rw[if_pos (by omega),←Nat.mul_assoc,Nat.mul_comm m 2,Nat.mul_assoc,←hmxe]at hlen
   simp -implicitDefEqProofs only[↓reduceIte,go_sem,Nat.reduceLT,Nat.reduceEqDiff,hj,show IntKind.i64.wrap (2* (mx:Int))=(L.length:Int) by rw[wrap64_in _ (by omega) (by omega)];omega,t2,t3,t5,t6,t8,t9,t10,t11]
  ·rw[if_neg (by omega),Nat.one_mul,←hmxe]at hlen
   simp -implicitDefEqProofs only[↓reduceIte,go_sem,Nat.reduceLT,Nat.reduceEqDiff,hj,t2,t3,t5,t6,t8,t9,t10,t11,hlen]
 clear hlen w1 w2 w3 t3
 rintro s H' ⟨rfl,t2,t3,t5,t6,t8,t9,t10,t11,t14⟩
 have hE:((if decide (0<L.length)=true then(0:Int)else 6)=0)=(0<(L.length:Int)):=by by_cases h:0<L.length<;>simp[h]<;>omega
 generalize (if decide (0<L.length)=true then(0:Int)else 6)=er at*
 simp -implicitDefEqProofs only[↓reduceIte,go_sem,Nat.reduceLT,Nat.reduceEqDiff,reduceCtorEq,t8,t11,t14,List.length_map,hE,bne_self_eq_false]
 refine fJ (fun s H'=>H'=H++[tb,qB q,fB f,xb]∧s 2= .ptr H.length 0 0 0∧s 3= .ptr (H.length+1) 0 0 0∧s 5=bA true∧s 14=iA L.length∧s 15=bA true) rfl ?_ ?_
 ·rcases hL0 with h0|⟨b,n,hob,hbL,hle2⟩
  ·refine bj (fun k s H'=>k=0∧H'=H++[tb,qB q,fB f,xb]∧s 2= .ptr H.length 0 0 0∧s 3= .ptr (H.length+1) 0 0 0∧s 5=bA true∧s 8= .d (.list false (L.map Pl.ds))∧s 14=iA L.length∧s 15=bA true∧s 16=iA 0) 0 (by omega) (al.refl _ _) ?_ ?_ ?_
   ·refine⟨rfl,rfl,?_⟩
    simp -implicitDefEqProofs only[↓reduceIte,go_sem,Nat.reduceLT,Nat.reduceEqDiff,t2,t3,t5,t8,t14,h0]
   ·intro k s H' hk;omega
   ·rintro s H' ⟨_,rfl,t2,t3,t5,t8,t14,t15,t16⟩
    simp -implicitDefEqProofs only[↓reduceIte,go_sem,Nat.reduceLT,Nat.reduceEqDiff,Int.reduceLT,t8,t16,List.length_map,h0,t2,t3,t5,t14,t15]
  ·obtain⟨hxc,hxn⟩:=hxs b n hob
   have hn0:¬(L.length:Int)=0:=by have:=List.length_pos_of_mem hbL;omega
   refine bj (fun k s H'=>H'=H++[tb,qB q,fB f,xb]∧s 2= .ptr H.length 0 0 0∧s 3= .ptr (H.length+1) 0 0 0∧s 5=bA true∧s 6= .ptr (H.length+2) 0 0 0∧s 8= .d (.list false (L.map Pl.ds))∧s 9= .ptr (H.length+3) 0 0 0∧s 10=du xn∧s 14=iA L.length∧s 15=bA (decide (b∈L.take k))∧s 16=iA k) L.length (by omega) (al.refl _ _) ?_ ?_ ?_
   ·refine⟨rfl,?_⟩
    simp -implicitDefEqProofs only[↓reduceIte,go_sem,Nat.reduceLT,Nat.reduceEqDiff,t2,t3,t5,t6,t8,t9,t10,t14,hn0,List.take_zero,List.not_mem_nil]
   ·rintro k s H' hk hw ⟨rfl,t2,t3,t5,t6,t8,t9,t10,t14,t15,t16⟩
    have hx:=C3 hk
    obtain⟨i,p,h1,h2,h3,h4,h5⟩:=hcost L[k] (List.getElem_mem hk)
    have hpx:(f.projs.map Pj.ds)[i]?=some p.ds:=by simp[h2]
    have hi:=(List.getElem?_eq_some_iff.1 h2).1
    have hnle:=hle2 L[k] (List.getElem_mem hk)
    rw[h3]at hnle
    have hsm:=fun H=>sJ L[k] b (by omega) H
    have e1:b∈L.take (k+1)↔b∈L.take k∨L[k]=b:=by rw[List.take_succ_eq_append_getElem hk,List.mem_append,List.mem_singleton,eq_comm (a:=b)]
    generalize L[k]=x at*
    obtain⟨xj,xl,xo,xr,xg⟩:=x
    simp only at h1
    subst h1
    simp -implicitDefEqProofs only[↓reduceIte,go_sem,Nat.reduceLT,Nat.reduceEqDiff,t8,t16,List.length_map,hk]
    refine aQ K.mixed (by kernel_rfl) ?_
    simp -implicitDefEqProofs only[↓reduceIte,go_sem,ab,Nat.reduceAdd,Nat.reduceLT,Nat.reduceLeDiff,Nat.reduceEqDiff,t3,t6,t8,t16,Fl.ds,Qu.ds,Pl.ds,Pj.ds,iD,hx,hpx]
    refine ae.ok (by exact h5 _) ?_
    generalize iF p q ⟨i,xl,xo,xr,xg⟩=c at*
    simp -implicitDefEqProofs only[↓reduceIte,go_sem,Nat.reduceLT,Nat.reduceEqDiff,t10,show ¬(c:Int)<(xn:Int) by omega]
    refine aQ K.mixed (by kernel_rfl) ?_
    by_cases hb:b∈L.take k
    case' pos=>simp -implicitDefEqProofs only[↓reduceIte,go_sem,Nat.reduceLT,Nat.reduceEqDiff,t15,hb,t16]
    case' neg=>
     simp -implicitDefEqProofs only[↓reduceIte,go_sem,ab,Nat.reduceAdd,Nat.reduceLT,Nat.reduceEqDiff,t15,hb,t8,t9,t16,hx,Pl.ds,iD,hxb]
     rw[hxc]
     refine ae.ok (by exact hsm _) ?_
     simp -implicitDefEqProofs only[↓reduceIte,go_sem,Nat.reduceLT,Nat.reduceEqDiff,reduceCtorEq,t16]
     rw[←hxc]
    all_goals
     refine c7.same ⟨by rw[hxb],?_⟩
     simp -implicitDefEqProofs only[↓reduceIte,go_sem,Nat.reduceLT,Nat.reduceEqDiff,t2,t3,t5,t6,t8,t9,t10,t14,hw,e1,hb,true_or,false_or]
   ·rintro s H' ⟨rfl,t2,t3,t5,t6,t8,t9,t10,t14,t15,t16⟩
    rw[List.take_length,decide_eq_true hbL]at t15
    simp -implicitDefEqProofs only[↓reduceIte,go_sem,Nat.reduceLT,Nat.reduceEqDiff,t8,t16,List.length_map,t2,t3,t5,t14,t15]
 clear hL0 hxs t2 t3 t5 t6 t8 t9 t10 t11 t14
 rintro s H' ⟨rfl,t2,t3,t5,t14,t15⟩
 simp -implicitDefEqProofs only[↓reduceIte,go_sem,ab,Nat.reduceAdd,Nat.reduceLT,Nat.reduceEqDiff,t3,Qu.ds]
 refine ae.ok (ib q hq _) ?_
 have hnl:=q.m8 hq
 have hp6:=hs.1
 generalize q.gk=N at*
 simp -implicitDefEqProofs only[↓reduceIte,go_sem,Nat.reduceLT]
 refine bj (fun k s H'=>H'=H++[tb,qB q,fB f,xb]∧s 2= .ptr H.length 0 0 0∧s 3= .ptr (H.length+1) 0 0 0∧s 5=bA true∧s 14=iA L.length∧s 15=bA true∧s 17=bA ((N.take k).all (uX t.kinds.length))∧s 18= .d (.list false (ints N))∧s 19=iA k) N.length (by omega) (al.refl _ _) ?_ ?_ ?_
 ·refine⟨rfl,?_⟩
  simp -implicitDefEqProofs only[↓reduceIte,go_sem,Nat.reduceLT,Nat.reduceEqDiff,t2,t3,t5,t14,t15,List.take_zero,List.all_nil]
 ·rintro k s H' hk hw ⟨rfl,t2,t3,t5,t14,t15,t17,t18,t19⟩
  have hx:=ck N k hk
  have e1:=j1 (uX t.kinds.length) N hk
  generalize (N.take k).all (uX t.kinds.length)=a at*
  generalize N[k]=x at*
  rw[show uX t.kinds.length x=(decide (0≤x)&&decide (x<t.kinds.length))from rfl]at e1
  simp -implicitDefEqProofs only[↓reduceIte,go_sem,Nat.reduceLT,Nat.reduceEqDiff,t18,t19,ay,hk]
  refine aQ K.mixed (by kernel_rfl) ?_
  cases a
  case' false=>simp -implicitDefEqProofs only[↓reduceIte,go_sem,Nat.reduceLT,Nat.reduceEqDiff,reduceCtorEq,t17,t19]
  case' true=>
   by_cases h0:0≤x
   case' neg=>simp -implicitDefEqProofs only[↓reduceIte,go_sem,Nat.reduceLT,Nat.reduceEqDiff,reduceCtorEq,t17,t18,t19,hx,h0]
   case' pos=>
    simp -implicitDefEqProofs only[↓reduceIte,go_sem,ab,Nat.reduceAdd,Nat.reduceLT,Nat.reduceLeDiff,Nat.reduceEqDiff,t2,t17,t18,t19,hx,ay,h0,htb,gr.ds]
    rw[show[AV.d (.list false (bC t.rows)),.d (.list false (ints t.kinds)),.d (.list false (ints t.c0)),.d (.list false (ints t.c1)),.d (.list false (ints t.k0)),.d (.list false (ints t.k1))]=t.ds.map .d from rfl,←htb]
  all_goals
   refine c7.same ⟨rfl,?_⟩
   simp -implicitDefEqProofs only[↓reduceIte,go_sem,Nat.reduceLT,Nat.reduceEqDiff,Bool.false_and,Bool.true_and,decide_true,decide_false, *]
 rintro s H' ⟨rfl,t2,t3,t5,t14,t15,t17,t18,t19⟩
 rw[List.take_length]at t17
 simp -implicitDefEqProofs only[↓reduceIte,go_sem,Nat.reduceLT,Nat.reduceEqDiff,t18,t19,ay]
 generalize hN:N.all (uX t.kinds.length)=na at*
 refine bj (fun k s H'=>H'=H++[tb,qB q,fB f,xb]∧s 2= .ptr H.length 0 0 0∧s 3= .ptr (H.length+1) 0 0 0∧s 5=bA true∧s 14=iA L.length∧s 15=bA true∧s 17=bA (na&&(q.pred.take k).all fun a=>uX t.kinds.length a.fM)∧s 20=iA k) q.pred.length (by omega) (al.refl _ _) ?_ ?_ ?_
 ·refine⟨rfl,?_⟩
  simp -implicitDefEqProofs only[↓reduceIte,go_sem,Nat.reduceLT,Nat.reduceEqDiff,t2,t3,t5,t14,t15,t17,List.take_zero,List.all_nil,Bool.and_true]
 ·rintro k s H' hk hw ⟨rfl,t2,t3,t5,t14,t15,t17,t20⟩
  have hx:(q.pred.map Atom.enc)[k]?=some q.pred[k].enc:=by simp[hk]
  have e1:=j1 (fun a:Atom=>uX t.kinds.length a.fM) q.pred hk
  have e2:(na&&(q.pred.take (k+1)).all fun a=>uX t.kinds.length a.fM)=((na&&(q.pred.take k).all fun a=>uX t.kinds.length a.fM)&&(decide (0≤q.pred[k].fM)&&decide (q.pred[k].fM<t.kinds.length))):=by rw[e1,Bool.and_assoc];rfl
  clear e1
  generalize (na&&(q.pred.take k).all fun a=>uX t.kinds.length a.fM)=a at*
  generalize q.pred[k]=x at*
  simp -implicitDefEqProofs only[↓reduceIte,go_sem,ab,Nat.reduceAdd,Nat.reduceLT,Nat.reduceLeDiff,Nat.reduceEqDiff,t3,t20,Qu.ds,List.length_map,hk]
  refine aQ K.mixed (by kernel_rfl) ?_
  cases a
  case' false=>simp -implicitDefEqProofs only[↓reduceIte,go_sem,Nat.reduceLT,Nat.reduceEqDiff,reduceCtorEq,t17,t20]
  case' true=>
   by_cases h0:0≤x.fM
   case' neg=>simp -implicitDefEqProofs only[↓reduceIte,go_sem,ab,Nat.reduceAdd,Nat.reduceLT,Nat.reduceLeDiff,Nat.reduceEqDiff,reduceCtorEq,t3,t17,t20,hx,Atom.enc,Qu.ds,h0]
   case' pos=>
    simp -implicitDefEqProofs only[↓reduceIte,go_sem,ab,Nat.reduceAdd,Nat.reduceLT,Nat.reduceLeDiff,Nat.reduceEqDiff,t2,t3,t17,t20,hx,Atom.enc,Qu.ds,ay,h0,htb,gr.ds]
    rw[show[AV.d (.list false (bC t.rows)),.d (.list false (ints t.kinds)),.d (.list false (ints t.c0)),.d (.list false (ints t.c1)),.d (.list false (ints t.k0)),.d (.list false (ints t.k1))]=t.ds.map .d from rfl,←htb]
  all_goals
   refine c7.same ⟨rfl,?_⟩
   simp -implicitDefEqProofs only[↓reduceIte,go_sem,Nat.reduceLT,Nat.reduceEqDiff,Bool.false_and,Bool.true_and,decide_true,decide_false, *]
 rintro s H' ⟨rfl,t2,t3,t5,t14,t15,t17,t20⟩
 rw[List.take_length]at t17
 have hpos:(na&&q.pred.all fun a=>uX t.kinds.length a.fM)=true→0<(L.length:Int):=fun h=>by
  rw[Bool.and_eq_true]at h
  have:=hfc h.1 h.2
  omega
 generalize (na&&q.pred.all fun a=>uX t.kinds.length a.fM)=ins at*
 cases ins
 case' false=>simp -implicitDefEqProofs only[↓reduceIte,go_sem,ab,Nat.reduceAdd,Nat.reduceLT,Nat.reduceLeDiff,Nat.reduceEqDiff,t3,t5,t15,t17,t20,Qu.ds,List.length_map]
 case' true=>simp -implicitDefEqProofs only[↓reduceIte,go_sem,ab,Nat.reduceAdd,Nat.reduceLT,Nat.reduceLeDiff,Nat.reduceEqDiff,reduceCtorEq,t3,t5,t14,t15,t17,t20,Qu.ds,List.length_map,hpos rfl]
 all_goals
  refine au.ret ?_
  simp -implicitDefEqProofs only[↓reduceIte,go_sem,Nat.reduceLT]
theorem planBest_does(x0:AV)(h0:lv Tryz.prog 26 x0)(x1:AV)(h1:lv Tryz.prog 31 x1):ag Tryz.prog 7 [x0,x1] [] (.ok (.d (.v (.bool true)))) []:=by
 obtain⟨t,rfl,ht⟩:=Cy h0
 obtain⟨q,rfl⟩:=FJ h1
 exact pn t ht q []
end Go.Proofs.YtfklokhopcmloaaGreat

/- Contracts of functions and lemmas for costPruned_holds, part 9. -/
import Derived.Test.YtfklokhopcmloaaGreatM08
set_option maxHeartbeats 8000000
set_option maxRecDepth 100000
set_option linter.all false
namespace Go.Proofs.YtfklokhopcmloaaGreat
open Go.Proofs.YtfklokhopcmloaaGreatAw Go.RowKit
def bK(q:Qu)(pl:Pl):List Atom:=if pl.late then ev q.pred pl.order else q.pred
def dL(p:Pj)(q:Qu)(pl:Pl)(sum k:Nat):Nat:=
 if fO p (aN p.bj k) (bK q pl)then sum else
  let rows:=((aN p.bj k).getD 0 pv).rows
  let s1:=if pl.late then cZ (cZ sum pl.rep.toNat) (km p q (bK q pl) (aN p.bj k) rows)else cZ sum (gK p q rows)
  if pl.range then s1 else cZ s1 (kf rows q.bJ.length)
def cD(p:Pj)(q:Qu)(pl:Pl)(k:Nat):Nat:=(List.range k).foldl (dL p q pl) 0
def eA(p:Pj)(q:Qu)(pl:Pl):Nat:=cD p q pl (bH p.bj)
theorem cS(p:Pj)(q:Qu)(pl:Pl)(k:Nat):cD p q pl (k+1)=dL p q pl (cD p q pl k) k:=by simp[cD,List.range_succ]
theorem oH(p:Pj)(q:Qu)(pl:Pl):∀k,cD p q pl k<18446744073709551616
 |0=>by simp[cD]
 |k+1=>by
  rw[cS]
  unfold dL
  split
  ·exact oH p q pl k
  ·simp only
   split
   ·split<;>exact fo _ _
   ·exact fo _ _
theorem tY{S:List (List Sg)}{k:Nat}(h:¬k<bH S):aN S k=[]:=by unfold aN;rw[if_pos (.inr (by omega))]
theorem jJ{S:List (List Sg)}{k:Nat}(h:k<bH S):aN S k=S.map (fun l=>eu l k)∧0<S.length:=by
 unfold aN
 rw[if_neg (by omega)]
 refine⟨rfl,?_⟩
 cases S with
 |nil=>simp[bH]at h
 |cons=>simp
theorem fD(p:Pj)(hp:p.Ok)(q:Qu)(hq:q.Ok)(pl:Pl)(hpl:pl.order.length≤1000)(hrep:gM pl.rep)(H:aa):ah Tryz.prog 17 [p.av,q.av,pl.av] H (.ok (du (eA p q pl))) H:=by
 unfold eA
 have hlt:=oH p q pl
 have hst:=fun k=>cS p q pl k
 have h0:cD p q pl 0=0:=rfl
 have hgn:=fun k=>tY (S:=p.bj) (k:=k)
 have hgp:=fun k=>jJ (S:=p.bj) (k:=k)
 have hgd:=fun k (hk:gM k) H=>jH p hp k hk H
 have hcs:∀sum k,dL p q pl sum k=if fO p (aN p.bj k) (bK q pl)then sum else if pl.range then(if pl.late then cZ (cZ sum pl.rep.toNat) (km p q (bK q pl) (aN p.bj k) ((aN p.bj k).getD 0 pv).rows)else cZ sum (gK p q ((aN p.bj k).getD 0 pv).rows))else cZ (if pl.late then cZ (cZ sum pl.rep.toNat) (km p q (bK q pl) (aN p.bj k) ((aN p.bj k).getD 0 pv).rows)else cZ sum (gK p q ((aN p.bj k).getD 0 pv).rows)) (kf ((aN p.bj k).getD 0 pv).rows q.bJ.length):=fun sum k=>by
  unfold dL;split<;>rfl
 have hzr:=fun(k:Int) z (h:z∈aN p.bj k)=>hp.eB h
 generalize cD p q pl=F at*
 generalize dL p q pl=G at*
 have hal:(bK q pl).length≤1000:=by
  unfold bK
  have:=hq.pred
  split
  ·exact Nat.le_trans (kQ _ _) hpl
  ·omega
 have hpr:=fun k (hk:gM k) H=>mO p hp (bK q pl) false (by omega) k hk H
 have hea:=fun rows (hr:rows<18446744073709551616) H=>tJ p hp.aT q hq rows hr H
 have hla:=fun Z (hZ:∀z∈Z,z.rows≤1000000000) (hZl:Z.length≤1000000000) rows (hr:rows<18446744073709551616) H=>wK p hp.aT q hq (bK q pl) false (by omega) Z hZ hZl rows hr H
 have hor:=fun H=>lI q.pred pl.order false false H (by have:=hq.pred;omega) (by omega)
 have hA:bK q pl=if pl.late then ev q.pred pl.order else q.pred:=rfl
 have hgs:=hp.many
 have hsl:=hp.len
 have hjl:=hq.bJ
 generalize bK q pl=A at*
 obtain⟨pb,hpb⟩:∃pb,pb=aA.box 49 4 0 1 [.d (.list false (ints p.aT)),.d (.list false (ints p.key)),iA p.rows,.d (.list false (cG p.bj))]:=⟨_,rfl⟩
 obtain⟨qb,hqb⟩:∃qb,qb=aA.box 31 8 0 1 [.d q.table,.d (.list false (q.pred.map Atom.enc)),.d (.list false (q.bJ.map mT)),.d (.list false (ints q.aT)),.d q.group,.d (.list false (q.cF.map ny)),.d q.order,.d q.r6]:=⟨_,rfl⟩
 obtain⟨proj,late,order,rep,range⟩:=pl
 simp only at*
 refine ah.al (hint:=(fun _=>false)) Tryz.func17 (by kernel_rfl) rfl [6] (by kernel_rfl) (by decide) (by simp[Tryz.ntmps17]) ?_
 rw[Tryz.ntmps17]
 simp -implicitDefEqProofs only[↓reduceIte,go_sem,ai,Nat.reduceAdd,Nat.reduceLT,Nat.reduceLeDiff,Nat.reduceEqDiff,Pj.av,Pj.ds,Qu.av,Qu.ds,Pl.av,Pl.ds]
 rw[←hqb,←hpb]
 refine fU (fun s H'=>H'=H++[pb,qb,.box 43 5 0 1 [iA proj,bA late,.d (.list false (ints order)),iA rep,bA range]]∧s 3= .ptr H.length 0 0 0∧s 4= .ptr (H.length+1) 0 0 0∧s 5= .ptr (H.length+2) 0 0 0∧s 7= .d (.list false (A.map Atom.enc))) rfl ?_ ?_
 ·cases late
  ·simp -implicitDefEqProofs only[↓reduceIte,go_sem,Nat.reduceLT,Nat.reduceEqDiff,hqb,hpb,hA,Bool.false_eq_true]
  ·simp -implicitDefEqProofs only[↓reduceIte,go_sem,ai,Nat.reduceAdd,Nat.reduceLT,Nat.reduceLeDiff,Nat.reduceEqDiff,hqb]
   refine ag.ok (hor _) ?_
   simp -implicitDefEqProofs only[↓reduceIte,go_sem,Nat.reduceLT,Nat.reduceEqDiff,hA,hpb,hqb,iD]
 rintro s H' ⟨rfl,t3,t4,t5,t7⟩
 obtain⟨lb,hlb⟩:∃lb,lb=aA.box 43 5 0 1 [iA proj,bA late,.d (.list false (ints order)),iA rep,bA range]:=⟨_,rfl⟩
 rw[←hlb]
 simp -implicitDefEqProofs only[go_sem]
 refine bl Tryz.prog _ _ _ (fun k s H'=>k≤bH p.bj∧H'=H++[pb,qb,lb]∧s 3= .ptr H.length 0 0 0∧s 4= .ptr (H.length+1) 0 0 0∧s 5= .ptr (H.length+2) 0 0 0∧s 7= .d (.list false (A.map Atom.enc))∧s 8=du (F k)∧s 9=iA k) (fun k=>bH p.bj-k) 0 (an.refl _ _) ?_ ?_
 ·refine⟨Nat.zero_le _,rfl,?_⟩
  simp -implicitDefEqProofs only[↓reduceIte,go_sem,Nat.reduceLT,Nat.reduceEqDiff,t3,t4,t5,t7,h0]
  rfl
 rintro k s H' ⟨hk,rfl,t3,t4,t5,t7,t8,t9⟩
 have hki:gM k:=⟨by omega,by omega⟩
 simp -implicitDefEqProofs only[↓reduceIte,go_sem,ai,Nat.reduceAdd,Nat.reduceLT,Nat.reduceEqDiff,t3,t9,hpb]
 refine ag.ok (hgd k hki _) ?_
 by_cases hkg:k<bH p.bj
 case neg=>
  obtain rfl:k=bH p.bj:=by omega
  simp -implicitDefEqProofs only[↓reduceIte,go_sem,Nat.reduceLT,Nat.reduceEqDiff,hgn _ hkg,List.map_nil,List.length_nil,t8]
  refine ay.ret ?_
  simp -implicitDefEqProofs only[↓reduceIte,go_sem,Nat.reduceLT]
 obtain⟨hZe,hS⟩:=hgp k hkg
 have hpk:=hpr k hki
 have hsk:=hst k
 rw[hcs]at hsk
 have hZr:=hzr k
 have hZl:(aN p.bj k).length=p.bj.length:=by rw[hZe];simp
 have hFk:=hlt k
 clear hZe
 generalize aN p.bj k=Z at*
 generalize fO p Z A=pr at*
 simp -implicitDefEqProofs only[↓reduceIte,go_sem,ai,Nat.reduceAdd,Nat.reduceLT,Nat.reduceEqDiff,List.length_map,hZl,show ¬((p.bj.length:Int)=0) by omega,t3,t7,t9]
 refine ag.ok (hpk _) ?_
 cases pr with
 |true=>
  simp -implicitDefEqProofs only[↓reduceIte,go_sem,Nat.reduceLT,Nat.reduceEqDiff,t9]
  rw[←hpb]
  refine⟨_,_,k+1,an.refl _ _,⟨hkg,rfl,?_⟩,by omega⟩
  rw[hsk,if_pos rfl]
  simp -implicitDefEqProofs only[↓reduceIte,go_sem,Nat.reduceLT,Nat.reduceEqDiff,t3,t4,t5,t7,t8,wrap64_in ((k:Int)+1) (by omega) (by omega)]
 |false=>
 rw[if_neg (by simp)]at hsk
 have hz:(Z.map Zn.ds)[0]?=some Z[0].ds:=by simp[show 0<Z.length by omega]
 have hzd:Z.getD 0 pv=Z[0]:=by simp[show 0<Z.length by omega]
 have hz1:=hZr Z[0] (List.getElem_mem (by omega))
 rw[hzd]at hsk
 have hea:=hea Z[0].rows (by omega)
 have hla:=hla Z hZr (by omega) Z[0].rows (by omega)
 have hel:gK p q Z[0].rows<18446744073709551616:=pL _ _
 have hll:km p q A Z Z[0].rows<18446744073709551616:=fo _ _
 generalize Z[0]=z at*
 have hwr:IntKind.u64.wrap (max (z.rows:Int) 0)=(z.rows:Int):=by rw[cJ _ (by omega) (by omega)];omega
 generalize hs1:(if late=true then cZ (cZ (F k) rep.toNat) (km p q A Z z.rows)else cZ (F k) (gK p q z.rows))=s1 at*
 have hs1l:s1<18446744073709551616:=by rw[←hs1];split<;>exact fo _ _
 simp -implicitDefEqProofs only[↓reduceIte,go_sem,ai,Nat.reduceAdd,Nat.reduceLT,Nat.reduceLeDiff,Nat.reduceEqDiff,Int.reduceLE,Int.reduceToNat,hz,Zn.ds,iD,hwr,t5,hlb]
 rw[←hlb,←hpb]
 refine fU (fun s H'=>H'=H++[pb,qb,lb]∧s 3= .ptr H.length 0 0 0∧s 4= .ptr (H.length+1) 0 0 0∧s 5= .ptr (H.length+2) 0 0 0∧s 7= .d (.list false (A.map Atom.enc))∧s 8=du s1∧s 9=iA k∧s 11=du z.rows) rfl ?_ ?_
 ·cases late
  case' false=>
   rw[if_neg (by simp)]at hs1
   simp -implicitDefEqProofs only[↓reduceIte,go_sem,ai,Nat.reduceAdd,Nat.reduceLT,Nat.reduceEqDiff,t8,t3,t4,hqb,hpb]
   refine ag.ok (hea _) ?_
   simp -implicitDefEqProofs only[↓reduceIte,go_sem,Nat.reduceLT,Nat.reduceEqDiff]
   refine ag.ok (fc _ _ hFk hel _) ?_
   simp -implicitDefEqProofs only[↓reduceIte,go_sem,Nat.reduceLT,Nat.reduceEqDiff,hs1]
  case' true=>
   have hrw:IntKind.u64.wrap (max rep 0)=(rep.toNat:Int):=by rw[cJ _ (by omega) (by have:=hrep.2;omega)];omega
   rw[if_pos rfl]at hs1
   simp -implicitDefEqProofs only[go_sem]
   refine bp K.mixed (by kernel_rfl) ?_
   simp -implicitDefEqProofs only[↓reduceIte,go_sem,ai,Nat.reduceAdd,Nat.reduceLT,Nat.reduceLeDiff,Nat.reduceEqDiff,t5,t8,hlb,hrw]
   refine ag.ok (fc _ _ hFk (by have:=hrep.2;omega) _) ?_
   simp -implicitDefEqProofs only[↓reduceIte,go_sem,ai,Nat.reduceAdd,Nat.reduceLT,Nat.reduceEqDiff,t3,t4,t7,hqb,hpb]
   refine ag.ok (hla _) ?_
   simp -implicitDefEqProofs only[↓reduceIte,go_sem,Nat.reduceLT,Nat.reduceEqDiff]
   refine ag.ok (fc _ _ (fo _ _) hll _) ?_
   simp -implicitDefEqProofs only[↓reduceIte,go_sem,Nat.reduceLT,Nat.reduceEqDiff,hs1]
  all_goals simp -implicitDefEqProofs only[go_sem,t3,t4,t5,t7,t9,hqb,hpb,hlb]
 rintro s H' ⟨rfl,t3,t4,t5,t7,t8,t9,t11⟩
 simp -implicitDefEqProofs only[↓reduceIte,go_sem,ai,Nat.reduceAdd,Nat.reduceLT,t5,hlb]
 rw[←hlb]
 cases range
 case' true=>
  rw[if_pos rfl]at hsk
  simp -implicitDefEqProofs only[↓reduceIte,go_sem,Nat.reduceLT,Nat.reduceEqDiff,t9]
 case' false=>
  rw[if_neg (by simp)]at hsk
  simp -implicitDefEqProofs only[↓reduceIte,go_sem,ai,Nat.reduceAdd,Nat.reduceLT,Nat.reduceLeDiff,Nat.reduceEqDiff,t8,t11,t4,hqb,List.length_map,cJ (q.bJ.length:Int) (by omega) (by omega)]
  refine ag.ok (jb _ _ (by omega) (by omega) _) ?_
  simp -implicitDefEqProofs only[↓reduceIte,go_sem,Nat.reduceLT,Nat.reduceEqDiff]
  refine ag.ok (fc _ _ hs1l (pL _ _) _) ?_
  simp -implicitDefEqProofs only[↓reduceIte,go_sem,Nat.reduceLT,Nat.reduceEqDiff,t9]
  rw[←hqb]
 all_goals
  refine⟨_,_,k+1,an.refl _ _,⟨hkg,rfl,?_⟩,by omega⟩
  simp -implicitDefEqProofs only[↓reduceIte,go_sem,Nat.reduceLT,Nat.reduceEqDiff,t3,t4,t5,t7,t8,hsk,wrap64_in ((k:Int)+1) (by omega) (by omega)]
theorem qi(H:aa):ah Tryz.prog 14 [] H (.ok (bA true)) H:=by
 refine ah.al (hint:=(fun _=>false)) Tryz.func14 (by kernel_rfl) rfl [0] (by kernel_rfl) (by decide) (by simp[Tryz.ntmps14]) ?_
 rw[Tryz.ntmps14]
 simp -implicitDefEqProofs only[go_sem]
 refine ag.ok (fc 18446744073709551615 1 (by omega) (by omega) H) ?_
 simp -implicitDefEqProofs only[↓reduceIte,go_sem,Nat.reduceAdd,Nat.reduceLT,du,cZ]
 refine ag.ok (jb 1099511627776 1099511627776 (by omega) (by omega) H) ?_
 simp -implicitDefEqProofs only[↓reduceIte,go_sem,Nat.reduceMul,Nat.reduceLT,Nat.reduceEqDiff,du,kf]
 refine ag.ok (jb 3 4 (by omega) (by omega) H) ?_
 simp -implicitDefEqProofs only[↓reduceIte,go_sem,Nat.reduceAdd,Nat.reduceMul,Nat.reduceLT,Nat.reduceLeDiff,Nat.reduceEqDiff,du,kf]
 refine ag.sub (.cons (.agg (.cons (.refl _) (.cons (.refl _) (.cons .nil (.cons (.refl _) (.cons (.refl _) (.cons .nil (.cons (.refl _) (.cons (.refl _) .nil))))))))) .nil) (ow [2,2] [] [] _ _ _ _ _ false true false (by decide) (by decide) (by decide) H) ?_
 simp -implicitDefEqProofs only[↓reduceIte,go_sem,Nat.reduceLT,Nat.reduceEqDiff,show px [2,2] [] []=[2]from by decide,ints]
 refine ay.aZ ?_
 simp -implicitDefEqProofs only[↓reduceIte,go_sem,Nat.reduceLT]
theorem zW{b c:Nat}{d:D}(hc:0<c)(h:Fits (.slice b [.slice c r3]) d):∃R:List (List ak),d= .list false (bW R)∧R.length* b≤140737488351232∧∀r∈R,r.length* c≤140737488351232∧∀v∈r,v.Ok:=by
 obtain⟨l,rfl,h1,h2⟩:=Fits.eM h
 obtain⟨la,rfl,h3⟩:=gH (enc:=cI) (p:=fun r=>r.length* c≤140737488351232∧∀v∈r,v.Ok) fun e he=>by
  obtain⟨x,xs,rfl,hx,h⟩:=aP.cons_inv (h2 e he)
  cases aP.fH h
  obtain⟨r,rfl,hl,hr⟩:=zd hx
  exact⟨r,rfl,hl,hr⟩
 exact⟨la,rfl,by simpa using h1,h3⟩
structure yY (R:List (List ak)):Prop where
 len:R.length≤100000000000000
 row:∀r∈R,r.length≤100000000000000
 val:∀r∈R,∀v∈r,v.Ok
theorem mh{d:D}(h:Fits (.slice 24 [.slice 32 r3]) d):∃R:List (List ak),d= .list false (bW R)∧yY R:=by
 obtain⟨R,rfl,hl,hn⟩:=zW (by decide) h
 exact⟨R,rfl,by omega,fun r hr=>by have:=(hn r hr).1;omega,fun r hr=>(hn r hr).2⟩
structure fT where
 rows:List (List ak)
 kinds:List Int
 aT:List Int
 key:List Int
def fT.ds(t:fT):List D:=[.list false (bW t.rows),.list false (ints t.kinds),.list false (ints t.aT),.list false (ints t.key)]
def fT.av(t:fT):AV:= .agg (t.ds.map .d)
structure fT.Ok (t:fT):Prop where
 rows:yY t.rows
 kinds:t.kinds.length≤100000000000000
 aT:t.aT.length≤100000000000000
 key:t.key.length≤100000000000000
def mG(t:fT):Prop:=cg 400 30000 t.rows=false∨20<t.aT.length∨20<t.key.length
instance (t:fT):Decidable (mG t):=by unfold mG;infer_instance
def tu(t:fT):Pj×Bool:=if mG t then(EN,false)else((jY t.rows t.kinds t.aT t.key 0).1,decide ((jY t.rows t.kinds t.aT t.key 0).2=0))
theorem wo(t:fT)(ht:t.Ok)(H:aa):ah Tryz.prog 15 [t.av] H (.ok (.bk [(tu t).1.av,bA (tu t).2])) H:=by
 have hfw:=fun H=>uK t.rows false ht.rows.len ht.rows.row (fun r hr v hv=>(ht.rows.val r hr v hv).s) H
 unfold tu
 have hb:mG t↔cg 400 30000 t.rows=false∨20<(t.aT.length:Int)∨20<(t.key.length:Int):=or_congr Iff.rfl (or_congr (by omega) (by omega))
 by_cases h:mG t
 ·rw[if_pos h]
  refine ah.jD (cs:=[.agg eW,bA false]) ?_ (.cons mj (.cons (.refl _) .nil))
  rw[hb]at h
  generalize cg 400 30000 t.rows=fw at*
  refine ah.cz (hint:=fun _=>false) Tryz.func15 (by kernel_rfl) rfl [.cell 2 49,.tmp 3] (by kernel_rfl) (by simp[Tryz.ntmps15]) ?_
  rw[Tryz.ntmps15]
  simp -implicitDefEqProofs only[↓reduceIte,go_sem,ai,Nat.reduceAdd,Nat.reduceLT,Nat.reduceLeDiff,Nat.reduceEqDiff,fT.av,fT.ds]
  refine ag.ok (hfw _) ?_
  cases fw
  case' true=>
   by_cases h2:20<(t.aT.length:Int)
   case' neg=>have h3:20<(t.key.length:Int):=by rcases h with h|h|h;cases h;exact absurd h h2;exact h
  all_goals
   simp -implicitDefEqProofs only[↓reduceIte,go_sem,ai,au,Nat.reduceAdd,Nat.reduceLT,Nat.reduceLeDiff,Nat.reduceEqDiff,reduceCtorEq,aJ, *]
   refine cT.ret ?_
   simp -implicitDefEqProofs only[↓reduceIte,go_sem,ai,Nat.reduceAdd,Nat.reduceLT,Nat.reduceLeDiff,Nat.reduceEqDiff,bQ,cQ,eW]
 ·rw[if_neg h]
  have hf:cg 400 30000 t.rows=true:=by cases e:cg 400 30000 t.rows;exact absurd (hb.2 (.inl e)) h;rfl
  obtain⟨hr1,hr2⟩:=kh hf
  have h2:¬20<(t.aT.length:Int):=fun e=>h (hb.2 (.inr (.inl e)))
  have h3:¬20<(t.key.length:Int):=fun e=>h (hb.2 (.inr (.inr e)))
  have hmk:=fun H=>va t.rows t.kinds t.aT t.key 0 false false false false H (by omega) (fun r hr=>by have:=hr2 r hr;omega) ht.kinds (by omega) (by omega) (fun r hr v hv=>(ht.rows.val r hr v hv).i)
  rw[hf]at hfw
  generalize jY t.rows t.kinds t.aT t.key 0=mk at*
  obtain⟨⟨cs,key,rows,S⟩,e⟩:=mk
  refine ah.cz (hint:=fun _=>false) Tryz.func15 (by kernel_rfl) rfl [.cell 2 49,.tmp 3] (by kernel_rfl) (by simp[Tryz.ntmps15]) ?_
  rw[Tryz.ntmps15]
  simp -implicitDefEqProofs only[↓reduceIte,go_sem,ai,Nat.reduceAdd,Nat.reduceLT,Nat.reduceLeDiff,Nat.reduceEqDiff,fT.av,fT.ds]
  refine ag.ok (hfw _) ?_
  simp -implicitDefEqProofs only[↓reduceIte,go_sem,ai,Nat.reduceAdd,Nat.reduceLT,Nat.reduceLeDiff,Nat.reduceEqDiff,reduceCtorEq,aJ,h2,h3]
  refine ag.ok (hmk _) ?_
  simp -implicitDefEqProofs only[↓reduceIte,go_sem,ai,au,Nat.reduceAdd,Nat.reduceLT,Nat.reduceEqDiff,Pj.av,Pj.ds]
  refine cT.ret ?_
  simp -implicitDefEqProofs only[↓reduceIte,go_sem,ai,Nat.reduceAdd,Nat.reduceLT,Nat.reduceLeDiff,Nat.reduceEqDiff,bQ,cQ]
theorem xH{t:fT}(h:(tu t).2=true):lg t.rows t.kinds t.aT t.key 0 (tu t).1∧t.aT.length≤20∧t.rows.length≤400:=by
 unfold tu at h⊢
 by_cases hb:mG t
 ·rw[if_pos hb]at h;cases h
 ·rw[if_neg hb]at h⊢
  refine⟨vo (of_decide_eq_true h),?_,?_⟩
  ·unfold mG at hb;omega
  ·have:cg 400 30000 t.rows=true:=by cases e:cg 400 30000 t.rows;exact absurd (.inl e) hb;rfl
   exact(kh this).1
theorem Ba{x:AV}(h:fW Tryz.prog 51 x):∃t:fT,x=t.av∧t.Ok:=by
 obtain⟨ds,rfl,hf⟩:=pA h K.Bz (shs:=[.slice 24 [.slice 32 r3],.slice 8 [.int .i64],.slice 8 [.int .i64],.slice 8 [.int .i64]]) (by kernel_rfl)
 obtain⟨d0,ds,rfl,h0,hf⟩:=aP.cons_inv hf
 obtain⟨d1,ds,rfl,h1,hf⟩:=aP.cons_inv hf
 obtain⟨d2,ds,rfl,h2,hf⟩:=aP.cons_inv hf
 obtain⟨d3,ds,rfl,h3,hf⟩:=aP.cons_inv hf
 cases aP.fH hf
 obtain⟨R,rfl,hR⟩:=mh h0
 obtain⟨ks,rfl,hk,_⟩:=iC h1
 obtain⟨cs,rfl,hc,_⟩:=iC h2
 obtain⟨key,rfl,hy,_⟩:=iC h3
 exact⟨⟨R,ks,cs,key⟩,rfl,hR,by simp only;omega,by simp only;omega,by simp only;omega⟩
theorem dm{a b c d:Nat}(h1:a≤c)(h2:b≤d):cZ a b≤cZ c d:=by unfold cZ;split<;>split<;>omega
theorem vR(a b:Nat)(ha:a<18446744073709551616):a≤cZ a b:=by unfold cZ;split<;>omega
theorem po{a b c d:Nat}(h1:a≤c)(h2:b≤d):kf a b≤kf c d:=by
 have:=Nat.mul_le_mul h1 h2
 unfold kf;split<;>split<;>omega
def jC(m:Int)(o o':List Int):Prop:=(∀x∈o,x∈o')∧(∀x∈o',x∈o∨x=m)∧(m∈o→o'.length=o.length)∧(m∉o→o'.length=o.length+1∧m∈o')
theorem jC.tell{m:Int}{o o':List Int}(h:jC m o o')(c:Int):jC m (tell o c) (tell o' c):=by
 obtain⟨h1,h2,h3,h4⟩:=h
 unfold Go.Proofs.YtfklokhopcmloaaGreat.tell
 by_cases hc:c∈o
 ·rw[if_pos hc,if_pos (h1 c hc)];exact⟨h1,h2,h3,h4⟩
 ·rw[if_neg hc]
  by_cases hc':c∈o'
  ·obtain rfl:c=m:=by rcases h2 c hc' with h|h;exact absurd h hc;exact h
   rw[if_pos hc']
   refine⟨fun x hx=>?_,fun x hx=>?_,fun _=>?_,fun h=>absurd (by simp) h⟩
   ·rcases List.mem_append.1 hx with h|h;exact h1 x h;rw[List.mem_singleton.1 h];exact hc'
   ·rcases h2 x hx with h|h;exact .inl (List.mem_append_left _ h);exact .inr h
   ·rw[(h4 hc).1];simp
  ·rw[if_neg hc']
   refine⟨fun x hx=>?_,fun x hx=>?_,fun h=>?_,fun h=>?_⟩
   ·rcases List.mem_append.1 hx with h|h;exact List.mem_append_left _ (h1 x h);exact List.mem_append_right _ h
   ·rcases List.mem_append.1 hx with h|h
    ·rcases h2 x h with h|h;exact .inl (List.mem_append_left _ h);exact .inr h
    ·exact .inl (List.mem_append_right _ h)
   ·rcases List.mem_append.1 h with h|h
    ·simp[h3 h]
    ·obtain rfl:=List.mem_singleton.1 h
     exact absurd (h4 hc).2 hc'
   ·have hm:m∉o:=fun e=>h (List.mem_append_left _ e)
    obtain⟨h5,h6⟩:=h4 hm
    exact⟨by simp[h5],List.mem_append_left _ h6⟩
theorem jC.fold{α:Type}{m:Int}{f:List Int→α→List Int}(hf:∀o o' x,jC m o o'→jC m (f o x) (f o' x)):∀(l:List α) (o o':List Int),jC m o o'→jC m (l.foldl f o) (l.foldl f o')
 |[],o,o',h=>h
 |x::l,o,o',h=>jC.fold hf l _ _ (hf o o' x h)
theorem wz(m:Int)(o:List Int):jC m o (tell o m):=by
 unfold tell
 split
 ·rename_i h;exact⟨fun _ h=>h,fun _ h=> .inl h,fun _=>rfl,fun h'=>absurd h h'⟩
 ·rename_i h;exact⟨fun x hx=>List.mem_append_left _ hx,fun x hx=>by rcases List.mem_append.1 hx with h|h;exact .inl h;exact .inr (List.mem_singleton.1 h),fun h'=>absurd h' h,fun _=>⟨by simp,by simp⟩⟩
def Qu.wide(q:Qu)(m:Int):Qu:={q with aT:=q.aT++[m]}
theorem xw(q:Qu)(m:Int):jC m q.gB (q.wide m).gB:=by
 unfold Qu.gB Qu.wide px
 simp only[List.foldl_append,List.foldl_cons,List.foldl_nil]
 refine jC.fold (f:=lL) (fun o o' x h=>h.tell x.1) _ _ _ (jC.fold (f:=fg) (fun o o' x h=>?_) _ _ _ (wz _ _))
 unfold fg
 split
 ·exact h
 ·exact h.tell _
theorem jC.len{m:Int}{o o':List Int}(h:jC m o o'):o.length≤o'.length:=by
 by_cases hm:m∈o
 ·rw[h.2.2.1 hm];omega
 ·rw[(h.2.2.2 hm).1];omega
theorem filter_mono{α:Type}{f g:α→Bool}(h:∀x,f x=true→g x=true):∀l:List α,(l.filter f).length≤(l.filter g).length
 |[]=>by simp
 |x::l=>by
  have ih:=filter_mono h l
  cases hf:f x with
  |true=>simp[hf,h x hf];exact ih
  |false=>cases hg:g x<;>simp[hf,hg]<;>omega
theorem pj(p:Pj)(q:Qu)(m:Int)(pl:Pl):∀k,cD p q pl k≤cD p (q.wide m) pl k
 |0=>by simp[cD]
 |k+1=>by
  have ih:=pj p q m pl k
  have hw:=xw q m
  rw[cS,cS]
  unfold dL
  have ha:bK (q.wide m) pl=bK q pl:=rfl
  rw[ha]
  split
  ·exact ih
  ·simp only
   have h1:(if pl.late then cZ (cZ (cD p q pl k) pl.rep.toNat) (km p q (bK q pl) (aN p.bj k) ((aN p.bj k).getD 0 pv).rows)else cZ (cD p q pl k) (gK p q ((aN p.bj k).getD 0 pv).rows))≤(if pl.late then cZ (cZ (cD p (q.wide m) pl k) pl.rep.toNat) (km p (q.wide m) (bK q pl) (aN p.bj k) ((aN p.bj k).getD 0 pv).rows)else cZ (cD p (q.wide m) pl k) (gK p (q.wide m) ((aN p.bj k).getD 0 pv).rows)):=by
    split
    ·exact dm (dm ih (Nat.le_refl _)) (dm (Nat.le_refl _) (po (Nat.le_refl _) hw.len))
    ·refine dm ih (po (Nat.le_refl _) (filter_mono (fun c hc=>?_) _))
     unfold asked at hc⊢
     rw[Bool.or_eq_true]at hc⊢
     rcases hc with hc|hc
     ·exact .inl hc
     ·exact .inr (decide_eq_true (hw.1 c (of_decide_eq_true hc)))
   split
   ·exact h1
   ·exact dm h1 (Nat.le_refl _)
theorem nL(p:Pj)(q:Qu)(pl:Pl):∀k,cD p q {pl with range:=true} k≤cD p q {pl with range:=false} k
 |0=>by simp[cD]
 |k+1=>by
  have ih:=nL p q pl k
  rw[cS,cS]
  unfold dL
  rw[show bK q {pl with range:=true}=bK q pl from rfl,show bK q {pl with range:=false}=bK q pl from rfl]
  split
  ·exact ih
  ·simp only[if_true,Bool.false_eq_true,if_false]
   split
   ·exact Nat.le_trans (dm (dm ih (Nat.le_refl _)) (Nat.le_refl _)) (vR _ _ (fo _ _))
   ·exact Nat.le_trans (dm ih (Nat.le_refl _)) (vR _ _ (fo _ _))
theorem lC(p:Pj)(q:Qu)(pl:Pl):∀k:Nat,(∀j:Nat,j<k→aN p.bj j=[]∨fO p (aN p.bj j) (bK q pl)=true)→(∀j:Nat,j<k→aN p.bj j≠[])→cD p q pl k=0
 |0,_,_=>rfl
 |k+1,h,g=>by
  rw[cS,lC p q pl k (fun j hj=>h j (by omega)) (fun j hj=>g j (by omega))]
  unfold dL
  rcases h k (by omega)with e|e
  ·exact absurd e (g k (by omega))
  ·rw[if_pos e]
def Qu.small(n:Nat)(q:Qu):Prop:=q.pred.length≤n∧q.bJ.length≤n∧q.aT.length≤n∧q.cF.length≤n
instance (n:Nat) (q:Qu):Decidable (q.small n):=by unfold Qu.small;infer_instance
theorem Qu.small.ok{n:Nat}{q:Qu}(h:q.small n)(hn:n≤100):q.Ok:=by obtain⟨h1,h2,h3,h4⟩:=h;exact⟨by omega,by omega,by omega,by omega⟩
theorem qo(q:Qu)(H:aa):ah Tryz.prog 16 [q.av] H (.ok (bA (decide (q.small 10)))) H:=by
 have c1:∀n:Nat,((n:Int)≤10)=(n≤10):=fun n=>by simp;omega
 unfold Qu.small
 refine ah.al (hint:=(fun _=>false)) Tryz.func16 (by kernel_rfl) rfl [2] (by kernel_rfl) (by decide) (by simp[Tryz.ntmps16]) ?_
 rw[Tryz.ntmps16]
 simp -implicitDefEqProofs only[↓reduceIte,go_sem,ai,Nat.reduceAdd,Nat.reduceLT,Nat.reduceLeDiff,Nat.reduceEqDiff,Qu.av,Qu.ds]
 by_cases h1:q.pred.length≤10
 case' pos=>
  by_cases h2:q.bJ.length≤10
  case' pos=>
   by_cases h3:q.aT.length≤10
   case' pos=>by_cases h4:q.cF.length≤10
 all_goals
  simp -implicitDefEqProofs only[↓reduceIte,go_sem,ai,Nat.reduceAdd,Nat.reduceLT,Nat.reduceLeDiff,Nat.reduceEqDiff,reduceCtorEq,List.length_map,aJ, *]
  refine ay.ret ?_
  simp -implicitDefEqProofs only[↓reduceIte,go_sem,Nat.reduceLT]<;>simp[*]
theorem D8{x:AV}(h:fW Tryz.prog 31 x):∃q:Qu,x=q.av:=by
 obtain⟨ds,rfl,hf⟩:=pA h K.BA (shs:=[.int .i64,.slice 48 qf,.slice 48 [.int .i64,.int .i64,.int .i64,.slice 48 qf],.slice 8 [.int .i64],.bool,.slice 16 [.int .i64,.int .i64],.slice 8 [.int .i64],.int .i64]) (by kernel_rfl)
 obtain⟨x0,_,rfl,h0,h⟩:=aP.cons_inv hf
 obtain⟨x1,_,rfl,h1,h⟩:=aP.cons_inv h
 obtain⟨x2,_,rfl,h2,h⟩:=aP.cons_inv h
 obtain⟨x3,_,rfl,h3,h⟩:=aP.cons_inv h
 obtain⟨x4,_,rfl,h4,h⟩:=aP.cons_inv h
 obtain⟨x5,_,rfl,h5,h⟩:=aP.cons_inv h
 obtain⟨x6,_,rfl,h6,h⟩:=aP.cons_inv h
 obtain⟨x7,_,rfl,h7,h⟩:=aP.cons_inv h
 cases aP.fH h
 obtain⟨pred,rfl,_,_⟩:=wc h1
 obtain⟨aT,rfl,_,_⟩:=iC h3
 obtain⟨l2,rfl,_,g2⟩:=Fits.eM h2
 obtain⟨l5,rfl,_,g5⟩:=Fits.eM h5
 obtain⟨bJ,rfl,_⟩:=gH (enc:=mT) (p:=fun _=>True) fun e he=>by
  obtain⟨a,_,rfl,ha,h⟩:=aP.cons_inv (g2 e he)
  obtain⟨b,_,rfl,_,h⟩:=aP.cons_inv h
  obtain⟨c,_,rfl,_,h⟩:=aP.cons_inv h
  obtain⟨d,_,rfl,_,h⟩:=aP.cons_inv h
  cases aP.fH h
  obtain⟨n,rfl,_⟩:=Fits.dM ha
  exact⟨(n,b,c,d),rfl,trivial⟩
 obtain⟨cF,rfl,_⟩:=gH (enc:=ny) (p:=fun _=>True) fun e he=>by
  obtain⟨a,_,rfl,ha,h⟩:=aP.cons_inv (g5 e he)
  obtain⟨b,_,rfl,hb,h⟩:=aP.cons_inv h
  cases aP.fH h
  obtain⟨n,rfl,_⟩:=Fits.dM ha
  obtain⟨m,rfl,_⟩:=Fits.dM hb
  exact⟨(n,m),rfl,trivial⟩
 exact⟨⟨x0,pred,bJ,aT,x4,cF,x6,x7⟩,rfl⟩
theorem EI{x:AV}(h:fW Tryz.prog 43 x):∃p:Pl,x=p.av∧gM p.proj∧gM p.rep∧p.order.length≤100000000000000:=by
 obtain⟨ds,rfl,hf⟩:=pA h K.BD (shs:=[.int .i64,.bool,.slice 8 [.int .i64],.int .i64,.bool]) (by kernel_rfl)
 obtain⟨x0,_,rfl,h0,h⟩:=aP.cons_inv hf
 obtain⟨x1,_,rfl,h1,h⟩:=aP.cons_inv h
 obtain⟨x2,_,rfl,h2,h⟩:=aP.cons_inv h
 obtain⟨x3,_,rfl,h3,h⟩:=aP.cons_inv h
 obtain⟨x4,_,rfl,h4,h⟩:=aP.cons_inv h
 cases aP.fH h
 obtain⟨a,rfl,ha⟩:=Fits.dM h0
 obtain⟨b,rfl⟩:=Fits.ti h1
 obtain⟨o,rfl,ho,_⟩:=iC h2
 obtain⟨r,rfl,hr⟩:=Fits.dM h3
 obtain⟨g,rfl⟩:=Fits.ti h4
 exact⟨⟨a,b,o,r,g⟩,rfl,ha,hr,by simp only;omega⟩
theorem zF(l:List Int):(∀c∈ints l,c.length=1)=True:=eq_true fun c hc=>by obtain⟨x,_,rfl⟩:=List.mem_map.1 hc;rfl
theorem l7(t:fT)(ht:t.Ok)(q:Qu)(pl:Pl)(hrep:gM pl.rep)(hor:pl.order.length≤100000000000000)(more:Int)(H:aa):ah Tryz.prog 5 [t.av,q.av,pl.av,iA more] H (.ok (bA true)) H:=by
 have hof:=fun H=>wo t ht H
 have hm:=xH (t:=t)
 generalize tu t=pb at*
 obtain⟨p,b⟩:=pb
 simp only at hof hm
 have hsm:=fun H=>qo q H
 refine ah.al (hint:=(fun t=>t==1000007)) Tryz.func5 (by kernel_rfl) rfl [8] (by kernel_rfl) (by decide) (by simp[Tryz.ntmps5]) ?_
 rw[Tryz.ntmps5]
 simp -implicitDefEqProofs only[↓reduceIte,go_sem,Nat.reduceAdd,Nat.reduceLT,Nat.reduceEqDiff,Nat.reduceBEq,fT.av,fT.ds,Qu.av,Qu.ds,Pl.av,Pl.ds]
 refine ag.ok (qi _) ?_
 simp -implicitDefEqProofs only[↓reduceIte,go_sem,ai,Nat.reduceAdd,Nat.reduceLT,Nat.reduceEqDiff,Nat.reduceBEq]
 refine ag.ok (hof _) ?_
 cases b with
 |false=>
  simp -implicitDefEqProofs only[↓reduceIte,go_sem,au,Nat.reduceAdd,Nat.reduceLT,Nat.reduceEqDiff,Nat.reduceBEq,Pj.av,Pj.ds]
  refine ay.ret ?_
  simp -implicitDefEqProofs only[↓reduceIte,go_sem,Nat.reduceLT]
 |true=>
 simp -implicitDefEqProofs only[↓reduceIte,go_sem,ai,au,Nat.reduceAdd,Nat.reduceLT,Nat.reduceEqDiff,Nat.reduceBEq,Pj.av,Pj.ds]
 refine ag.ok (hsm _) ?_
 by_cases hs:q.small 10
 case neg=>
  simp -implicitDefEqProofs only[↓reduceIte,go_sem,Nat.reduceLT,Nat.reduceEqDiff,reduceCtorEq,hs]
  refine ay.ret ?_
  simp -implicitDefEqProofs only[↓reduceIte,go_sem,Nat.reduceLT]
 by_cases h20:20<(pl.order.length:Int)
 ·simp -implicitDefEqProofs only[↓reduceIte,go_sem,ai,Nat.reduceAdd,Nat.reduceLT,Nat.reduceLeDiff,Nat.reduceEqDiff,reduceCtorEq,hs,aJ,h20]
  refine ay.ret ?_
  simp -implicitDefEqProofs only[↓reduceIte,go_sem,Nat.reduceLT]
 obtain⟨hmd,hc20,hR⟩:=hm rfl
 have hok:=hmd.ok (by omega)
 have hq:=hs.ok (by omega)
 have hqw:(q.wide more).Ok:=⟨hq.pred,hq.bJ,by have:=hs.2.2.1;simp[Qu.wide];omega,hq.cF⟩
 have hc1:=fun H=>fD p hok (q.wide more) hqw pl (by omega) hrep H
 have hc2:=fun H=>fD p hok q hq pl (by omega) hrep H
 have hc3:=fun H=>fD p hok q hq {pl with range:=false} (by simp only;omega) hrep H
 have hc4:=fun H=>fD p hok q hq {pl with range:=true} (by simp only;omega) hrep H
 have hl1:eA p q pl≤eA p (q.wide more) pl:=pj p q more pl _
 have hl2:eA p q {pl with range:=true}≤eA p q {pl with range:=false}:=nL p q pl _
 simp -implicitDefEqProofs only[↓reduceIte,go_sem,ai,au,Nat.reduceAdd,Nat.reduceLT,Nat.reduceLeDiff,Nat.reduceEqDiff,Nat.reduceBEq,reduceCtorEq,hs,aJ,h20,zF]
 have s3:=hs.2.2.1
 refine⟨by omega,by omega,by omega,by omega,?_⟩
 refine⟨_,_,an.pq _ _ (H.length+4) 8 0 1 3 (H.length+5) 2 0 (q.aT.length+1) 1 31 3 [.d q.table,.d (.list false (q.pred.map Atom.enc)),.d (.list false (q.bJ.map mT)),.sl (H.length+5) 2 0 (q.aT.length+1),.d q.group,.d (.list false (q.cF.map ny)),.d q.order,.d q.r6] (ints (q.aT++[more])) (by simp -implicitDefEqProofs only[go_sem,jh]) rfl (by simp -implicitDefEqProofs only[go_sem,jh]),?_⟩
 have hic:((ints (q.aT++[more])).drop 0).take (q.aT.length+1)=ints (q.aT++[more]):=by rw[List.drop_zero];exact List.take_of_length_le (by rw[aJ];simp)
 rw[hic]
 simp -implicitDefEqProofs only[↓reduceIte,go_sem,ai,au,Nat.reduceAdd,Nat.reduceLT,Nat.reduceEqDiff,Nat.reduceBEq]
 refine bp K.mixed (by kernel_rfl) ?_
 simp -implicitDefEqProofs only[↓reduceIte,go_sem,ai,Nat.reduceAdd,Nat.reduceLT,Nat.reduceEqDiff]
 refine ag.ok (hc1 _) ?_
 simp -implicitDefEqProofs only[↓reduceIte,go_sem,ai,Nat.reduceAdd,Nat.reduceLT,Nat.reduceEqDiff]
 refine ag.ok (hc2 _) ?_
 simp -implicitDefEqProofs only[↓reduceIte,go_sem,ai,Nat.reduceAdd,Nat.reduceLT,Nat.reduceEqDiff,show ¬((eA p (q.wide more) pl:Nat):Int)<(eA p q pl:Nat) by omega]
 refine ag.ok (hc3 _) ?_
 simp -implicitDefEqProofs only[↓reduceIte,go_sem,ai,Nat.reduceAdd,Nat.reduceLT,Nat.reduceEqDiff]
 refine ag.ok (hc4 _) ?_
 simp -implicitDefEqProofs only[↓reduceIte,go_sem,ai,Nat.reduceAdd,Nat.reduceLT,Nat.reduceLeDiff,Nat.reduceEqDiff,Nat.reduceBEq,reduceCtorEq,show ¬((eA p q {pl with range:=false}:Nat):Int)<(eA p q {pl with range:=true}:Nat) by omega]
 have hA:bK q pl=if pl.late then ev q.pred pl.order else q.pred:=rfl
 have hord:=fun H=>lI q.pred pl.order false false H (by have:=hq.pred;omega) (by omega)
 have hcp:=lC p q pl (bH p.bj)
 have hgs:bH p.bj≤2* (aN p.bj 0).length:=by
  have hg:=hmd.many
  rcases Nat.eq_zero_or_pos (bH p.bj)with h|h
  ·omega
  ·obtain⟨h1,h2⟩:=jJ (S:=p.bj) (k:=0) h
   have h3:(aN p.bj 0).length=p.bj.length:=(congrArg List.length h1).trans (by simp)
   unfold uE at hg
   omega
 have hgp:=fun k (hk:k<bH p.bj)=>jJ (S:=p.bj) (k:=k) hk
 have hprune:=fun n (hn:gM n) H=>mO p hok (bK q pl) false (by rw[hA];have:=hq.pred;have:=kQ q.pred pl.order;split<;>omega) n hn H
 have hgrp:=fun n (hn:gM n) H=>jH p hok n hn H
 have hgl:∀n:Int,(aN p.bj n).length≤20:=fun n=>by
  have h1:p.bj.length≤20:=by rw[hmd.eq];simpa[dP]using hc20
  unfold aN;split<;>simp;exact h1
 generalize bK q pl=A at*
 have hce:eA p q pl=cD p q pl (bH p.bj):=rfl
 refine fU (fun s H'=>H'=H++([.box 51 4 0 1 (t.ds.map .d),.box 31 8 0 1 (q.ds.map .d),.box 43 5 0 1 (pl.ds.map .d),.box 49 4 0 1 (p.ds.map .d)]++[.box 31 8 0 1 ((q.wide more).ds.map .d),.arr 3 1 3 [],.box 43 5 0 1 (({pl with range:=true}:Pl).ds.map .d),.box 43 5 0 1 (({pl with range:=false}:Pl).ds.map .d)])∧s 5= .ptr (H.length+1) 0 0 0∧s 6= .ptr (H.length+2) 0 0 0∧s 9=bA true∧s 10= .ptr (H.length+3) 0 0 0∧s 15= .d (.list false (A.map Atom.enc))) rfl ?_ ?_
 ·obtain⟨proj,late,order,rep,range⟩:=pl
  cases late
  case' true=>
   simp -implicitDefEqProofs only[↓reduceIte,go_sem,ai,Nat.reduceAdd,Nat.reduceLT,Nat.reduceLeDiff,Nat.reduceEqDiff]
   refine ag.ok (hord _) ?_
  all_goals
   simp -implicitDefEqProofs only[↓reduceIte,go_sem,Nat.reduceLT,Nat.reduceEqDiff]
   refine⟨rfl,?_⟩
   simp -implicitDefEqProofs only[↓reduceIte,go_sem,hA,Bool.false_eq_true]
 rintro s H' ⟨rfl,t5,t6,t9,t10,t15⟩
 simp -implicitDefEqProofs only[go_sem]
 refine cv (fun k s H'=>(∀j:Nat,j<k→aN p.bj j=[]∨fO p (aN p.bj j) A=true)∧H'=H++[.box 51 4 0 1 (t.ds.map .d),.box 31 8 0 1 (q.ds.map .d),.box 43 5 0 1 (pl.ds.map .d),.box 49 4 0 1 (p.ds.map .d)]∧s 5= .ptr (H.length+1) 0 0 0∧s 6= .ptr (H.length+2) 0 0 0∧s 9=bA true∧s 10= .ptr (H.length+3) 0 0 0∧s 15= .d (.list false (A.map Atom.enc))∧s 16=iA k) (2* (aN p.bj 0).length) (by have:=hgl 0;omega) (an.cut [_,_,_,_] _ 4 rfl _ (by simp -implicitDefEqProofs only[go_sem,fT.ds,Qu.ds,Pl.ds,Pj.ds])) ?_ ?_ ?_
 ·refine⟨fun j hj=>by omega,rfl,?_⟩
  simp -implicitDefEqProofs only[↓reduceIte,go_sem,Nat.reduceLT,Nat.reduceEqDiff,t5,t6,t9,t10,t15]
 ·rintro k s H' hk hw ⟨hp,rfl,t5,t6,t9,t10,t15,t16⟩
  have hl0:=hgl 0
  have hki:gM k:=⟨by omega,by omega⟩
  have hp1:(aN p.bj k=[]∨fO p (aN p.bj k) A=true)→∀j:Nat,j<k+1→aN p.bj j=[]∨fO p (aN p.bj j) A=true:=fun h j hj=>by
   rcases Nat.lt_or_ge j k with h2|h2
   ·exact hp j h2
   ·obtain rfl:j=k:=by omega
    exact h
  have hgk:=hgrp k hki
  have hpk:=hprune k hki
  simp -implicitDefEqProofs only[↓reduceIte,go_sem,ai,Nat.reduceAdd,Nat.reduceLT,Nat.reduceEqDiff,t10,t16,Pj.ds]
  refine ag.ok (hgrp 0 ⟨by omega,by omega⟩ _) ?_
  have h0:=hgl k
  obtain⟨m,hm⟩:∃m,m=(aN p.bj 0).length:=⟨_,rfl⟩
  rw[←hm]at hk hl0
  have hmm:IntKind.i64.wrap ((m:Int)* 2)=(m:Int)* 2:=wrap64_in _ (by omega) (by omega)
  simp -implicitDefEqProofs only[↓reduceIte,go_sem,ai,Nat.reduceAdd,Nat.reduceLT,Nat.reduceEqDiff,cP,←hm,hmm,show(k:Int)<(m:Int)* 2 by omega,t10,t16]
  refine ag.ok (hgk _) ?_
  generalize aN p.bj k=Z at*
  by_cases hz:0<(Z.length:Int)
  case' pos=>
   simp -implicitDefEqProofs only[↓reduceIte,go_sem,ai,Nat.reduceAdd,Nat.reduceLT,Nat.reduceEqDiff,cP,hz,t10,t15,t16]
   refine ag.ok (hpk _) ?_
   cases hpr:fO p Z A
   case' false=>
    simp -implicitDefEqProofs only[↓reduceIte,go_sem,Nat.reduceLT,Nat.reduceEqDiff,t9]
    refine ay.ret ?_
    simp -implicitDefEqProofs only[↓reduceIte,go_sem,Nat.reduceLT]
   case' true=>
    have hp2:=hp1 (.inr hpr)
    simp -implicitDefEqProofs only[↓reduceIte,go_sem,Nat.reduceAdd,Nat.reduceLT,Nat.reduceEqDiff,Nat.reduceBEq]
  case' neg=>
   have hp2:=hp1 (.inl (by cases Z with|nil=>rfl|cons=>simp at hz))
   simp -implicitDefEqProofs only[↓reduceIte,go_sem,Nat.reduceAdd,Nat.reduceLT,Nat.reduceEqDiff,Nat.reduceBEq,reduceCtorEq,cP,hz]
  all_goals
   simp -implicitDefEqProofs only[↓reduceIte,go_sem,Nat.reduceLT,t16]
   refine dC.same ⟨hp2,rfl,?_⟩
   simp -implicitDefEqProofs only[↓reduceIte,go_sem,Nat.reduceLT,Nat.reduceEqDiff,t5,t6,t9,t10,t15,hw]
 ·rintro s H' ⟨hp,rfl,t5,t6,t9,t10,t15,t16⟩
  have hl0:=hgl 0
  have hc0:eA p q pl=0:=by
   rw[hce]
   refine hcp (fun j hj=>hp j (by omega)) fun j hj e=>?_
   obtain⟨h1,h2⟩:=hgp j hj
   rw[e]at h1
   have:=congrArg List.length h1
   simp at this
   omega
  rw[hc0]at hc2
  simp -implicitDefEqProofs only[↓reduceIte,go_sem,ai,Nat.reduceAdd,Nat.reduceLT,Nat.reduceEqDiff,t10,t16,Pj.ds]
  refine ag.ok (hgrp 0 ⟨by omega,by omega⟩ _) ?_
  generalize (aN p.bj 0)=Z at*
  have hmm:IntKind.i64.wrap ((Z.length:Int)* 2)=(Z.length:Int)* 2:=wrap64_in _ (by omega) (by omega)
  simp -implicitDefEqProofs only[↓reduceIte,go_sem,ai,Nat.reduceAdd,Nat.reduceLT,Nat.reduceEqDiff,Nat.reduceBEq,cP,hmm,show ¬((2* Z.length:Nat):Int)<(Z.length:Int)* 2 by omega,t9,t10,t5,t6,Qu.ds,Pl.ds]
  refine ag.ok (hc2 _) ?_
  simp -implicitDefEqProofs only[↓reduceIte,go_sem,Nat.reduceLT,Nat.reduceEqDiff]
  refine ay.ret ?_
  simp -implicitDefEqProofs only[↓reduceIte,go_sem,Nat.reduceLT]
theorem costPruned_does(x0:AV)(h0:fW Tryz.prog 51 x0)(x1:AV)(h1:fW Tryz.prog 31 x1)(x2:AV)(h2:fW Tryz.prog 43 x2)(x3:AV)(h3:fW Tryz.prog 3 x3):ah Tryz.prog 5 [x0,x1,x2,x3] [] (.ok (.d (.v (.bool true)))) []:=by
 obtain⟨t,rfl,ht⟩:=Ba h0
 obtain⟨q,rfl⟩:=D8 h1
 obtain⟨pl,rfl,_,hr,ho⟩:=EI h2
 obtain⟨d,rfl,hf⟩:=Bu h3 K.CW (sh:= .int .i64) (by kernel_rfl)
 obtain⟨n,rfl,hn⟩:=Fits.dM hf
 exact l7 t ht q pl hr ho n []
end Go.Proofs.YtfklokhopcmloaaGreat

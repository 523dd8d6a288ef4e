/- Contracts of functions and lemmas for costPlain_holds, part 9. -/
import Derived.Test.YtfklokhopcmloaaGreatM08
set_option maxHeartbeats 4000000
set_option maxRecDepth 100000
set_option linter.all false
namespace Go.Proofs.YtfklokhopcmloaaGreat
open Go.Proofs.YtfklokhopcmloaaGreatAw Go.RowKit
def dc(q:Qu)(pl:Pl):List Atom:=if pl.late then eH q.pred pl.order else q.pred
def eS(p:Pj)(q:Qu)(pl:Pl)(sum k:Nat):Nat:=
 if km p (bH p.cl k) (dc q pl)then sum else
  let rows:=((bH p.cl k).getD 0 rY).rows
  let s1:=if pl.late then ef (ef sum pl.rep.toNat) (mb p q (dc q pl) (bH p.cl k) rows)else ef sum (iJ p q rows)
  if pl.range then s1 else ef s1 (jO rows q.bW.length)
def eK(p:Pj)(q:Qu)(pl:Pl)(k:Nat):Nat:=(List.range k).foldl (eS p q pl) 0
def pO(p:Pj)(q:Qu)(pl:Pl):Nat:=eK p q pl (cf p.cl)
theorem gY(p:Pj)(q:Qu)(pl:Pl)(k:Nat):eK p q pl (k+1)=eS p q pl (eK p q pl k) k:=by simp[eK,List.range_succ]
theorem oN(p:Pj)(q:Qu)(pl:Pl):∀k,eK p q pl k<18446744073709551616
 |0=>by simp[eK]
 |k+1=>by
  rw[gY]
  unfold eS
  split
  ·exact oN p q pl k
  ·simp only
   split
   ·split<;>exact iT _ _
   ·exact iT _ _
theorem tl{S:List (List Sg)}{k:Nat}(h:¬k<cf S):bH S k=[]:=by unfold bH;rw[if_pos (.inr (by omega))]
theorem mJ{S:List (List Sg)}{k:Nat}(h:k<cf S):bH S k=S.map (fun l=>dL l k)∧0<S.length:=by
 unfold bH
 rw[if_neg (by omega)]
 refine⟨rfl,?_⟩
 cases S with
 |nil=>simp[cf]at h
 |cons=>simp
theorem rQ(p:Pj)(hp:p.Ok)(q:Qu)(hq:q.Ok)(pl:Pl)(hpl:pl.order.length≤1000)(hrep:jb pl.rep)(H:aa):ah Tryz.prog 17 [p.av,q.av,pl.av] H (.ok (du (pO p q pl))) H:=by
 unfold pO
 have hlt:=oN p q pl
 have hst:=fun k=>gY p q pl k
 have h0:eK p q pl 0=0:=rfl
 have hgn:=fun k=>tl (S:=p.cl) (k:=k)
 have hgp:=fun k=>mJ (S:=p.cl) (k:=k)
 have hgd:=fun k (hk:jb k) H=>mZ p hp k hk H
 have hcs:∀sum k,eS p q pl sum k=if km p (bH p.cl k) (dc q pl)then sum else if pl.range then(if pl.late then ef (ef sum pl.rep.toNat) (mb p q (dc q pl) (bH p.cl k) ((bH p.cl k).getD 0 rY).rows)else ef sum (iJ p q ((bH p.cl k).getD 0 rY).rows))else ef (if pl.late then ef (ef sum pl.rep.toNat) (mb p q (dc q pl) (bH p.cl k) ((bH p.cl k).getD 0 rY).rows)else ef sum (iJ p q ((bH p.cl k).getD 0 rY).rows)) (jO ((bH p.cl k).getD 0 rY).rows q.bW.length):=fun sum k=>by
  unfold eS;split<;>rfl
 have hzr:=fun(k:Int) z (h:z∈bH p.cl k)=>hp.er h
 generalize eK p q pl=F at*
 generalize eS p q pl=G at*
 have hal:(dc q pl).length≤1000:=by
  unfold dc
  have:=hq.pred
  split
  ·exact Nat.le_trans (ow _ _) hpl
  ·omega
 have hpr:=fun k (hk:jb k) H=>vi p hp (dc q pl) false (by omega) k hk H
 have hea:=fun rows (hr:rows<18446744073709551616) H=>uC p hp.aC q hq rows hr H
 have hla:=fun Z (hZ:∀z∈Z,z.rows≤1000000000) (hZl:Z.length≤1000000000) rows (hr:rows<18446744073709551616) H=>wv p hp.aC q hq (dc q pl) false (by omega) Z hZ hZl rows hr H
 have hor:=fun H=>sK q.pred pl.order false false H (by have:=hq.pred;omega) (by omega)
 have hA:dc q pl=if pl.late then eH q.pred pl.order else q.pred:=rfl
 have hgs:=hp.many
 have hsl:=hp.len
 have hjl:=hq.bW
 generalize dc q pl=A at*
 obtain⟨pb,hpb⟩:∃pb,pb=az.box 49 4 0 1 [.d (.list false (ints p.aC)),.d (.list false (ints p.key)),iA p.rows,.d (.list false (cC p.cl))]:=⟨_,rfl⟩
 obtain⟨qb,hqb⟩:∃qb,qb=az.box 31 8 0 1 [.d q.table,.d (.list false (q.pred.map Atom.enc)),.d (.list false (q.bW.map qd)),.d (.list false (ints q.aC)),.d q.group,.d (.list false (q.cV.map pF)),.d q.order,.d q.vz]:=⟨_,rfl⟩
 obtain⟨proj,late,order,rep,range⟩:=pl
 simp only at*
 refine ah.al (hint:=(fun _=>false)) Tryz.func17 (by kernel_rfl) rfl [6] (by kernel_rfl) (by decide) (by simp[Tryz.ntmps17]) ?_
 rw[Tryz.ntmps17]
 simp -implicitDefEqProofs only[↓reduceIte,go_sem,ai,Nat.reduceAdd,Nat.reduceLT,Nat.reduceLeDiff,Nat.reduceEqDiff,Pj.av,Pj.ds,Qu.av,Qu.ds,Pl.av,Pl.ds]
 rw[←hqb,←hpb]
 refine iW (fun s H'=>H'=H++[pb,qb,.box 43 5 0 1 [iA proj,bA late,.d (.list false (ints order)),iA rep,bA range]]∧s 3= .ptr H.length 0 0 0∧s 4= .ptr (H.length+1) 0 0 0∧s 5= .ptr (H.length+2) 0 0 0∧s 7= .d (.list false (A.map Atom.enc))) rfl ?_ ?_
 ·cases late
  ·simp -implicitDefEqProofs only[↓reduceIte,go_sem,Nat.reduceLT,Nat.reduceEqDiff,hqb,hpb,hA,Bool.false_eq_true]
  ·simp -implicitDefEqProofs only[↓reduceIte,go_sem,ai,Nat.reduceAdd,Nat.reduceLT,Nat.reduceLeDiff,Nat.reduceEqDiff,hqb]
   refine ag.ok (hor _) ?_
   simp -implicitDefEqProofs only[↓reduceIte,go_sem,Nat.reduceLT,Nat.reduceEqDiff,hA,hpb,hqb,iD]
 rintro s H' ⟨rfl,t3,t4,t5,t7⟩
 obtain⟨lb,hlb⟩:∃lb,lb=az.box 43 5 0 1 [iA proj,bA late,.d (.list false (ints order)),iA rep,bA range]:=⟨_,rfl⟩
 rw[←hlb]
 simp -implicitDefEqProofs only[go_sem]
 refine bg Tryz.prog _ _ _ (fun k s H'=>k≤cf p.cl∧H'=H++[pb,qb,lb]∧s 3= .ptr H.length 0 0 0∧s 4= .ptr (H.length+1) 0 0 0∧s 5= .ptr (H.length+2) 0 0 0∧s 7= .d (.list false (A.map Atom.enc))∧s 8=du (F k)∧s 9=iA k) (fun k=>cf p.cl-k) 0 (an.refl _ _) ?_ ?_
 ·refine⟨Nat.zero_le _,rfl,?_⟩
  simp -implicitDefEqProofs only[↓reduceIte,go_sem,Nat.reduceLT,Nat.reduceEqDiff,t3,t4,t5,t7,h0]
  rfl
 rintro k s H' ⟨hk,rfl,t3,t4,t5,t7,t8,t9⟩
 have hki:jb k:=⟨by omega,by omega⟩
 simp -implicitDefEqProofs only[↓reduceIte,go_sem,ai,Nat.reduceAdd,Nat.reduceLT,Nat.reduceEqDiff,t3,t9,hpb]
 refine ag.ok (hgd k hki _) ?_
 by_cases hkg:k<cf p.cl
 case neg=>
  obtain rfl:k=cf p.cl:=by omega
  simp -implicitDefEqProofs only[↓reduceIte,go_sem,Nat.reduceLT,Nat.reduceEqDiff,hgn _ hkg,List.map_nil,List.length_nil,t8]
  refine ay.ret ?_
  simp -implicitDefEqProofs only[↓reduceIte,go_sem,Nat.reduceLT]
 obtain⟨hZe,hS⟩:=hgp k hkg
 have hpk:=hpr k hki
 have hsk:=hst k
 rw[hcs]at hsk
 have hZr:=hzr k
 have hZl:(bH p.cl k).length=p.cl.length:=by rw[hZe];simp
 have hFk:=hlt k
 clear hZe
 generalize bH p.cl k=Z at*
 generalize km p Z A=pr at*
 simp -implicitDefEqProofs only[↓reduceIte,go_sem,ai,Nat.reduceAdd,Nat.reduceLT,Nat.reduceEqDiff,List.length_map,hZl,show ¬((p.cl.length:Int)=0) by omega,t3,t7,t9]
 refine ag.ok (hpk _) ?_
 cases pr with
 |true=>
  simp -implicitDefEqProofs only[↓reduceIte,go_sem,Nat.reduceLT,Nat.reduceEqDiff,t9]
  rw[←hpb]
  refine⟨_,_,k+1,an.refl _ _,⟨hkg,rfl,?_⟩,by omega⟩
  rw[hsk,if_pos rfl]
  simp -implicitDefEqProofs only[↓reduceIte,go_sem,Nat.reduceLT,Nat.reduceEqDiff,t3,t4,t5,t7,t8,wrap64_in ((k:Int)+1) (by omega) (by omega)]
 |false=>
 rw[if_neg (by simp)]at hsk
 have hz:(Z.map Zn.ds)[0]?=some Z[0].ds:=by simp[show 0<Z.length by omega]
 have hzd:Z.getD 0 rY=Z[0]:=by simp[show 0<Z.length by omega]
 have hz1:=hZr Z[0] (List.getElem_mem (by omega))
 rw[hzd]at hsk
 have hea:=hea Z[0].rows (by omega)
 have hla:=hla Z hZr (by omega) Z[0].rows (by omega)
 have hel:iJ p q Z[0].rows<18446744073709551616:=pC _ _
 have hll:mb p q A Z Z[0].rows<18446744073709551616:=iT _ _
 generalize Z[0]=z at*
 have hwr:IntKind.u64.wrap (max (z.rows:Int) 0)=(z.rows:Int):=by rw[cx _ (by omega) (by omega)];omega
 generalize hs1:(if late=true then ef (ef (F k) rep.toNat) (mb p q A Z z.rows)else ef (F k) (iJ p q z.rows))=s1 at*
 have hs1l:s1<18446744073709551616:=by rw[←hs1];split<;>exact iT _ _
 simp -implicitDefEqProofs only[↓reduceIte,go_sem,ai,Nat.reduceAdd,Nat.reduceLT,Nat.reduceLeDiff,Nat.reduceEqDiff,Int.reduceLE,Int.reduceToNat,hz,Zn.ds,iD,hwr,t5,hlb]
 rw[←hlb,←hpb]
 refine iW (fun s H'=>H'=H++[pb,qb,lb]∧s 3= .ptr H.length 0 0 0∧s 4= .ptr (H.length+1) 0 0 0∧s 5= .ptr (H.length+2) 0 0 0∧s 7= .d (.list false (A.map Atom.enc))∧s 8=du s1∧s 9=iA k∧s 11=du z.rows) rfl ?_ ?_
 ·cases late
  case' false=>
   rw[if_neg (by simp)]at hs1
   simp -implicitDefEqProofs only[↓reduceIte,go_sem,ai,Nat.reduceAdd,Nat.reduceLT,Nat.reduceEqDiff,t8,t3,t4,hqb,hpb]
   refine ag.ok (hea _) ?_
   simp -implicitDefEqProofs only[↓reduceIte,go_sem,Nat.reduceLT,Nat.reduceEqDiff]
   refine ag.ok (e7 _ _ hFk hel _) ?_
   simp -implicitDefEqProofs only[↓reduceIte,go_sem,Nat.reduceLT,Nat.reduceEqDiff,hs1]
  case' true=>
   have hrw:IntKind.u64.wrap (max rep 0)=(rep.toNat:Int):=by rw[cx _ (by omega) (by have:=hrep.2;omega)];omega
   rw[if_pos rfl]at hs1
   simp -implicitDefEqProofs only[go_sem]
   refine bj K.mixed (by kernel_rfl) ?_
   simp -implicitDefEqProofs only[↓reduceIte,go_sem,ai,Nat.reduceAdd,Nat.reduceLT,Nat.reduceLeDiff,Nat.reduceEqDiff,t5,t8,hlb,hrw]
   refine ag.ok (e7 _ _ hFk (by have:=hrep.2;omega) _) ?_
   simp -implicitDefEqProofs only[↓reduceIte,go_sem,ai,Nat.reduceAdd,Nat.reduceLT,Nat.reduceEqDiff,t3,t4,t7,hqb,hpb]
   refine ag.ok (hla _) ?_
   simp -implicitDefEqProofs only[↓reduceIte,go_sem,Nat.reduceLT,Nat.reduceEqDiff]
   refine ag.ok (e7 _ _ (iT _ _) hll _) ?_
   simp -implicitDefEqProofs only[↓reduceIte,go_sem,Nat.reduceLT,Nat.reduceEqDiff,hs1]
  all_goals simp -implicitDefEqProofs only[go_sem,t3,t4,t5,t7,t9,hqb,hpb,hlb]
 rintro s H' ⟨rfl,t3,t4,t5,t7,t8,t9,t11⟩
 simp -implicitDefEqProofs only[↓reduceIte,go_sem,ai,Nat.reduceAdd,Nat.reduceLT,t5,hlb]
 rw[←hlb]
 cases range
 case' true=>
  rw[if_pos rfl]at hsk
  simp -implicitDefEqProofs only[↓reduceIte,go_sem,Nat.reduceLT,Nat.reduceEqDiff,t9]
 case' false=>
  rw[if_neg (by simp)]at hsk
  simp -implicitDefEqProofs only[↓reduceIte,go_sem,ai,Nat.reduceAdd,Nat.reduceLT,Nat.reduceLeDiff,Nat.reduceEqDiff,t8,t11,t4,hqb,List.length_map,cx (q.bW.length:Int) (by omega) (by omega)]
  refine ag.ok (gW _ _ (by omega) (by omega) _) ?_
  simp -implicitDefEqProofs only[↓reduceIte,go_sem,Nat.reduceLT,Nat.reduceEqDiff]
  refine ag.ok (e7 _ _ hs1l (pC _ _) _) ?_
  simp -implicitDefEqProofs only[↓reduceIte,go_sem,Nat.reduceLT,Nat.reduceEqDiff,t9]
  rw[←hqb]
 all_goals
  refine⟨_,_,k+1,an.refl _ _,⟨hkg,rfl,?_⟩,by omega⟩
  simp -implicitDefEqProofs only[↓reduceIte,go_sem,Nat.reduceLT,Nat.reduceEqDiff,t3,t4,t5,t7,t8,hsk,wrap64_in ((k:Int)+1) (by omega) (by omega)]
theorem p3(H:aa):ah Tryz.prog 14 [] H (.ok (bA true)) H:=by
 refine ah.al (hint:=(fun _=>false)) Tryz.func14 (by kernel_rfl) rfl [0] (by kernel_rfl) (by decide) (by simp[Tryz.ntmps14]) ?_
 rw[Tryz.ntmps14]
 simp -implicitDefEqProofs only[go_sem]
 refine ag.ok (e7 18446744073709551615 1 (by omega) (by omega) H) ?_
 simp -implicitDefEqProofs only[↓reduceIte,go_sem,Nat.reduceAdd,Nat.reduceLT,du,ef]
 refine ag.ok (gW 1099511627776 1099511627776 (by omega) (by omega) H) ?_
 simp -implicitDefEqProofs only[↓reduceIte,go_sem,Nat.reduceMul,Nat.reduceLT,Nat.reduceEqDiff,du,jO]
 refine ag.ok (gW 3 4 (by omega) (by omega) H) ?_
 simp -implicitDefEqProofs only[↓reduceIte,go_sem,Nat.reduceAdd,Nat.reduceMul,Nat.reduceLT,Nat.reduceLeDiff,Nat.reduceEqDiff,du,jO]
 refine ag.sub (.cons (.agg (.cons (.refl _) (.cons (.refl _) (.cons .nil (.cons (.refl _) (.cons (.refl _) (.cons .nil (.cons (.refl _) (.cons (.refl _) .nil))))))))) .nil) (oy [2,2] [] [] _ _ _ _ _ false true false (by decide) (by decide) (by decide) H) ?_
 simp -implicitDefEqProofs only[↓reduceIte,go_sem,Nat.reduceLT,Nat.reduceEqDiff,show ov [2,2] [] []=[2]from by decide,ints]
 refine ay.aX ?_
 simp -implicitDefEqProofs only[↓reduceIte,go_sem,Nat.reduceLT]
theorem zO{b c:Nat}{d:D}(hc:0<c)(h:Fits (.slice b [.slice c sn]) d):∃R:List (List ak),d= .list false (bT R)∧R.length* b≤140737488351232∧∀r∈R,r.length* c≤140737488351232∧∀v∈r,v.Ok:=by
 obtain⟨l,rfl,h1,h2⟩:=Fits.kT h
 obtain⟨la,rfl,h3⟩:=lR (enc:=cH) (p:=fun r=>r.length* c≤140737488351232∧∀v∈r,v.Ok) fun e he=>by
  obtain⟨x,xs,rfl,hx,h⟩:=bG.cons_inv (h2 e he)
  cases bG.l7 h
  obtain⟨r,rfl,hl,hr⟩:=yd hx
  exact⟨r,rfl,hl,hr⟩
 exact⟨la,rfl,by simpa using h1,h3⟩
structure yo (R:List (List ak)):Prop where
 len:R.length≤100000000000000
 row:∀r∈R,r.length≤100000000000000
 val:∀r∈R,∀v∈r,v.Ok
theorem l5{d:D}(h:Fits (.slice 24 [.slice 32 sn]) d):∃R:List (List ak),d= .list false (bT R)∧yo R:=by
 obtain⟨R,rfl,hl,hn⟩:=zO (by decide) h
 exact⟨R,rfl,by omega,fun r hr=>by have:=(hn r hr).1;omega,fun r hr=>(hn r hr).2⟩
structure gj where
 rows:List (List ak)
 kinds:List Int
 aC:List Int
 key:List Int
def gj.ds(t:gj):List D:=[.list false (bT t.rows),.list false (ints t.kinds),.list false (ints t.aC),.list false (ints t.key)]
def gj.av(t:gj):AV:= .agg (t.ds.map .d)
structure gj.Ok (t:gj):Prop where
 rows:yo t.rows
 kinds:t.kinds.length≤100000000000000
 aC:t.aC.length≤100000000000000
 key:t.key.length≤100000000000000
def m3(t:gj):Prop:=cd 400 30000 t.rows=false∨20<t.aC.length∨20<t.key.length
instance (t:gj):Decidable (m3 t):=by unfold m3;infer_instance
def tZ(t:gj):Pj×Bool:=if m3 t then(D9,false)else((jL t.rows t.kinds t.aC t.key 0).1,decide ((jL t.rows t.kinds t.aC t.key 0).2=0))
theorem xU(t:gj)(ht:t.Ok)(H:aa):ah Tryz.prog 15 [t.av] H (.ok (.bf [(tZ t).1.av,bA (tZ t).2])) H:=by
 have hfw:=fun H=>tE t.rows false ht.rows.len ht.rows.row (fun r hr v hv=>(ht.rows.val r hr v hv).s) H
 unfold tZ
 have hb:m3 t↔cd 400 30000 t.rows=false∨20<(t.aC.length:Int)∨20<(t.key.length:Int):=or_congr Iff.rfl (or_congr (by omega) (by omega))
 by_cases h:m3 t
 ·rw[if_pos h]
  refine ah.jD (cs:=[.agg eL,bA false]) ?_ (.cons lQ (.cons (.refl _) .nil))
  rw[hb]at h
  generalize cd 400 30000 t.rows=fw at*
  refine ah.cz (hint:=fun _=>false) Tryz.func15 (by kernel_rfl) rfl [.cell 2 49,.tmp 3] (by kernel_rfl) (by simp[Tryz.ntmps15]) ?_
  rw[Tryz.ntmps15]
  simp -implicitDefEqProofs only[↓reduceIte,go_sem,ai,Nat.reduceAdd,Nat.reduceLT,Nat.reduceLeDiff,Nat.reduceEqDiff,gj.av,gj.ds]
  refine ag.ok (hfw _) ?_
  cases fw
  case' true=>
   by_cases h2:20<(t.aC.length:Int)
   case' neg=>have h3:20<(t.key.length:Int):=by rcases h with h|h|h;cases h;exact absurd h h2;exact h
  all_goals
   simp -implicitDefEqProofs only[↓reduceIte,go_sem,ai,au,Nat.reduceAdd,Nat.reduceLT,Nat.reduceLeDiff,Nat.reduceEqDiff,reduceCtorEq,aF, *]
   refine cP.ret ?_
   simp -implicitDefEqProofs only[↓reduceIte,go_sem,ai,Nat.reduceAdd,Nat.reduceLT,Nat.reduceLeDiff,Nat.reduceEqDiff,bO,cN,eL]
 ·rw[if_neg h]
  have hf:cd 400 30000 t.rows=true:=by cases e:cd 400 30000 t.rows;exact absurd (hb.2 (.inl e)) h;rfl
  obtain⟨hr1,hr2⟩:=j4 hf
  have h2:¬20<(t.aC.length:Int):=fun e=>h (hb.2 (.inr (.inl e)))
  have h3:¬20<(t.key.length:Int):=fun e=>h (hb.2 (.inr (.inr e)))
  have hmk:=fun H=>uM t.rows t.kinds t.aC t.key 0 false false false false H (by omega) (fun r hr=>by have:=hr2 r hr;omega) ht.kinds (by omega) (by omega) (fun r hr v hv=>(ht.rows.val r hr v hv).i)
  rw[hf]at hfw
  generalize jL t.rows t.kinds t.aC t.key 0=mk at*
  obtain⟨⟨cs,key,rows,S⟩,e⟩:=mk
  refine ah.cz (hint:=fun _=>false) Tryz.func15 (by kernel_rfl) rfl [.cell 2 49,.tmp 3] (by kernel_rfl) (by simp[Tryz.ntmps15]) ?_
  rw[Tryz.ntmps15]
  simp -implicitDefEqProofs only[↓reduceIte,go_sem,ai,Nat.reduceAdd,Nat.reduceLT,Nat.reduceLeDiff,Nat.reduceEqDiff,gj.av,gj.ds]
  refine ag.ok (hfw _) ?_
  simp -implicitDefEqProofs only[↓reduceIte,go_sem,ai,Nat.reduceAdd,Nat.reduceLT,Nat.reduceLeDiff,Nat.reduceEqDiff,reduceCtorEq,aF,h2,h3]
  refine ag.ok (hmk _) ?_
  simp -implicitDefEqProofs only[↓reduceIte,go_sem,ai,au,Nat.reduceAdd,Nat.reduceLT,Nat.reduceEqDiff,Pj.av,Pj.ds]
  refine cP.ret ?_
  simp -implicitDefEqProofs only[↓reduceIte,go_sem,ai,Nat.reduceAdd,Nat.reduceLT,Nat.reduceLeDiff,Nat.reduceEqDiff,bO,cN]
theorem xJ{t:gj}(h:(tZ t).2=true):jm t.rows t.kinds t.aC t.key 0 (tZ t).1∧t.aC.length≤20∧t.rows.length≤400:=by
 unfold tZ at h⊢
 by_cases hb:m3 t
 ·rw[if_pos hb]at h;cases h
 ·rw[if_neg hb]at h⊢
  refine⟨tK (of_decide_eq_true h),?_,?_⟩
  ·unfold m3 at hb;omega
  ·have:cd 400 30000 t.rows=true:=by cases e:cd 400 30000 t.rows;exact absurd (.inl e) hb;rfl
   exact(j4 this).1
theorem Ah{x:AV}(h:j3 Tryz.prog 51 x):∃t:gj,x=t.av∧t.Ok:=by
 obtain⟨ds,rfl,hf⟩:=AL h K.Bn (shs:=[.slice 24 [.slice 32 sn],.slice 8 [.int .i64],.slice 8 [.int .i64],.slice 8 [.int .i64]]) (by kernel_rfl)
 obtain⟨d0,ds,rfl,h0,hf⟩:=bG.cons_inv hf
 obtain⟨d1,ds,rfl,h1,hf⟩:=bG.cons_inv hf
 obtain⟨d2,ds,rfl,h2,hf⟩:=bG.cons_inv hf
 obtain⟨d3,ds,rfl,h3,hf⟩:=bG.cons_inv hf
 cases bG.l7 hf
 obtain⟨R,rfl,hR⟩:=l5 h0
 obtain⟨ks,rfl,hk,_⟩:=jP h1
 obtain⟨cs,rfl,hc,_⟩:=jP h2
 obtain⟨key,rfl,hy,_⟩:=jP h3
 exact⟨⟨R,ks,cs,key⟩,rfl,hR,by simp only;omega,by simp only;omega,by simp only;omega⟩
theorem jN(x:Int):∀(l o:List Int),x∈l.foldl tell o↔x∈o∨x∈l
 |[],o=>by simp
 |c::l,o=>by
  rw[List.foldl_cons,jN x l]
  unfold tell
  split
  ·rename_i h
   constructor
   ·rintro(h1|h1);exact .inl h1;exact .inr (by simp[h1])
   ·rintro(h1|h1)
    ·exact .inl h1
    ·rcases List.mem_cons.1 h1 with rfl|h1;exact .inl h;exact .inr h1
  ·simp[or_assoc]
def gG(aC:List Int):Qu:=⟨.v (.int .i64 0),[],[],aC,.v (.bool false),[],.list false [],.v (.int .i64 (-1))⟩
def Am:Pl:=⟨0,false,[],0,false⟩
theorem sW{R:List (List ak)}{ks cs key:List Int}{w:Int}{p:Pj}(h:jm R ks cs key w p){k:Nat}(hk:k<pB R.length):((bH p.cl k).getD 0 rY).rows=min 256 (R.length-256* k)∧(bH p.cl k)≠[]:=by
 obtain⟨h1,h2⟩:=mJ (S:=p.cl) (k:=k) (by rw[h.many];exact hk)
 rw[h1]
 cases e:p.cl with
 |nil=>rw[e]at h2;simp at h2
 |cons l S=>
  obtain⟨h3,h4⟩:=h.EG (l:=l) (by rw[e];simp)
  refine⟨?_,by simp⟩
  have h5:=h4 k (by omega)
  simp only[List.map_cons,List.getD_cons_zero]
  simpa[dL,show k<l.length by omega]using h5
theorem jn{R:List (List ak)}{ks cs key:List Int}{w:Int}{p:Pj}(h:jm R ks cs key w p)(hR:R.length≤400)(hc:p.aC.length≤20)(aC:List Int):∀k,k≤pB R.length→eK p (gG aC) Am k=(p.aC.filter fun c=>decide (c∈aC)).length* min (256* k) R.length
 |0,_=>by simp[eK]
 |k+1,hk=>by
  have ih:=jn h hR hc aC k (by omega)
  have hn:(p.aC.filter fun c=>decide (c∈aC)).length≤p.aC.length:=List.length_filter_le _ _
  have ha:(asked (gG aC))=fun c=>decide (c∈aC):=by
   funext c
   unfold asked Qu.iN ov gG
   simp[jN]
  obtain⟨hz,_⟩:=sW h (k:=k) (by omega)
  rw[gY,ih]
  unfold eS
  rw[if_neg (by simp[dc,Am,gG,km])]
  simp only[Am,Bool.false_eq_true,if_false]
  rw[hz]
  unfold iJ
  rw[ha]
  generalize (p.aC.filter fun c=>decide (c∈aC)).length=n at*
  have e:min (256* (k+1)) R.length=min (256* k) R.length+min 256 (R.length-256* k):=by omega
  rw[e,Nat.mul_add]
  have b1:n* min (256* k) R.length≤20* 400:=Nat.mul_le_mul (by omega) (by omega)
  have b2:min 256 (R.length-256* k)* n≤256* 20:=Nat.mul_le_mul (by omega) (by omega)
  rw[Nat.mul_comm n (min 256 (R.length-256* k))]
  generalize n* min (256* k) R.length=a at*
  generalize min 256 (R.length-256* k)=m at*
  have e1:jO m n=m* n:=if_pos (by omega)
  have e2:jO m 0=0:=rfl
  have e3:ef a (m* n)=a+m* n:=if_pos (by omega)
  have e4:ef (a+m* n) 0=a+m* n:=if_pos (by omega)
  rw[e1,e3]
  show ef (a+m* n) (jO m 0)=_
  rw[e2,e4]
theorem mj(t:gj)(ht:t.Ok)(aC:List Int)(hcl:aC.length≤100000000000000)(H:aa):ah Tryz.prog 6 [t.av,.d (.list false (ints aC))] H (.ok (bA true)) H:=by
 have hof:=fun H=>xU t ht H
 have hm:=xJ (t:=t)
 generalize tZ t=pb at*
 obtain⟨p,b⟩:=pb
 simp only at hof hm
 refine ah.al (hint:=(fun _=>false)) Tryz.func6 (by kernel_rfl) rfl [4] (by kernel_rfl) (by decide) (by simp[Tryz.ntmps6]) ?_
 rw[Tryz.ntmps6]
 simp -implicitDefEqProofs only[↓reduceIte,go_sem,Nat.reduceAdd,Nat.reduceLT,Int.reduceNeg,gj.av,gj.ds]
 refine ag.ok (p3 _) ?_
 simp -implicitDefEqProofs only[↓reduceIte,go_sem,ai,Nat.reduceAdd,Nat.reduceLT,Nat.reduceEqDiff,Int.reduceNeg]
 refine ag.ok (hof _) ?_
 cases b with
 |false=>
  simp -implicitDefEqProofs only[↓reduceIte,go_sem,au,Nat.reduceAdd,Nat.reduceLT,Nat.reduceEqDiff,Int.reduceNeg,Pj.av,Pj.ds]
  refine ay.ret ?_
  simp -implicitDefEqProofs only[↓reduceIte,go_sem,Nat.reduceLT]
 |true=>
 obtain⟨hmd,hc20,hR⟩:=hm rfl
 by_cases h10:10<(aC.length:Int)
 ·simp -implicitDefEqProofs only[↓reduceIte,go_sem,au,Nat.reduceAdd,Nat.reduceLT,Nat.reduceEqDiff,Int.reduceNeg,reduceCtorEq,aF,h10,Pj.av,Pj.ds]
  refine ay.ret ?_
  simp -implicitDefEqProofs only[↓reduceIte,go_sem,Nat.reduceLT]
 have hok:=hmd.ok (by omega)
 have hpc:p.aC.length≤20:=by rw[hmd.eq];exact hc20
 have hq:(gG aC).Ok:=⟨by simp[gG],by simp[gG],by simp[gG];omega,by simp[gG]⟩
 have hco:=fun H=>rQ p hok (gG aC) hq Am (by simp[Am]) ⟨by simp[Am],by simp[Am]⟩ H
 have hsum:=jn hmd hR hpc aC (pB t.rows.length) (Nat.le_refl _)
 have hce:pO p (gG aC) Am=eK p (gG aC) Am (pB t.rows.length):=by unfold pO;rw[hmd.many]
 rw[hsum,Nat.min_eq_right (by unfold pB;omega)]at hce
 rw[hce]at hco
 clear hce hsum hmd hm hof
 obtain⟨pc,key,prows,S⟩:=p
 simp only at hpc hco
 simp -implicitDefEqProofs only[↓reduceIte,go_sem,au,Nat.reduceAdd,Nat.reduceLT,Nat.reduceLeDiff,Nat.reduceEqDiff,Int.reduceNeg,reduceCtorEq,aF,h10,Pj.av,Pj.ds]
 obtain⟨tb,htb⟩:∃tb,tb=az.box 51 4 0 1 [.d (.list false (bT t.rows)),.d (.list false (ints t.kinds)),.d (.list false (ints t.aC)),.d (.list false (ints t.key))]:=⟨_,rfl⟩
 obtain⟨pb,hpb⟩:∃pb,pb=az.box 49 4 0 1 [.d (.list false (ints pc)),.d (.list false (ints key)),iA prows,.d (.list false (cC S))]:=⟨_,rfl⟩
 obtain⟨qb,hqb⟩:∃qb,qb=az.box 31 8 0 1 [iA 0,.d (.v (.slice none 0 0)),.d (.v (.slice none 0 0)),.d (.list false (ints aC)),bA false,.d (.v (.slice none 0 0)),.d (.v (.slice none 0 0)),iA (-1)]:=⟨_,rfl⟩
 rw[←htb,←hpb,←hqb]
 refine b9 (fun k s H'=>H'=H++[tb,pb,qb]∧s 1= .d (.list false (ints aC))∧s 2= .ptr H.length 0 0 0∧s 5=bA true∧s 6= .ptr (H.length+1) 0 0 0∧s 8= .ptr (H.length+2) 0 0 0∧s 9=iA ((pc.take k).filter fun c=>decide (c∈aC)).length∧s 10=iA k) pc.length (by omega) (an.refl _ _) ?_ ?_ ?_
 ·refine⟨rfl,?_⟩
  simp -implicitDefEqProofs only[↓reduceIte,go_sem,Nat.reduceLT,Nat.reduceEqDiff,List.take_zero,List.filter_nil]
 ·rintro k s H' hk hw ⟨rfl,t1,t2,t5,t6,t8,t9,t10⟩
  have hx:=cJ pc k hk
  have e1:((pc.take (k+1)).filter fun c=>decide (c∈aC)).length=((pc.take k).filter fun c=>decide (c∈aC)).length+if pc[k]∈aC then 1 else 0:=by
   rw[List.take_succ_eq_append_getElem hk,List.filter_append,List.length_append]
   by_cases h:pc[k]∈aC<;>simp[h]
  have hle:((pc.take k).filter fun c=>decide (c∈aC)).length≤k:=Nat.le_trans (List.length_filter_le _ _) (List.length_take_le _ _)
  generalize ((pc.take k).filter fun c=>decide (c∈aC)).length=m at*
  generalize pc[k]=c at*
  simp -implicitDefEqProofs only[↓reduceIte,go_sem,ai,Nat.reduceAdd,Nat.reduceLT,Nat.reduceLeDiff,Nat.reduceEqDiff,t6,t10,hpb,aF,hk]
  rw[←hpb]
  refine b9 (fun j s H'=>H'=H++[tb,pb,qb]∧s 1= .d (.list false (ints aC))∧s 2= .ptr H.length 0 0 0∧s 5=bA true∧s 6= .ptr (H.length+1) 0 0 0∧s 8= .ptr (H.length+2) 0 0 0∧s 9=iA m∧s 10=iA k∧s 11=bA (decide (c∈aC.take j))∧s 12=iA j) aC.length (by omega) (an.refl _ _) ?_ ?_ ?_
  ·refine⟨rfl,?_⟩
   simp -implicitDefEqProofs only[↓reduceIte,go_sem,Nat.reduceLT,Nat.reduceEqDiff,t1,t2,t5,t6,t8,t9,t10,List.take_zero,List.not_mem_nil]
  ·rintro j s H' hj hw2 ⟨rfl,t1,t2,t5,t6,t8,t9,t10,t11,t12⟩
   have hy:=cJ aC j hj
   have e2:c∈aC.take (j+1)↔c∈aC.take j∨aC[j]=c:=by rw[List.take_succ_eq_append_getElem hj,List.mem_append,List.mem_singleton,eq_comm (a:=c)]
   generalize aC[j]=y at*
   simp -implicitDefEqProofs only[↓reduceIte,go_sem,Nat.reduceLT,Nat.reduceEqDiff,t1,t12,aF,hj]
   refine bj K.mixed (by kernel_rfl) ?_
   by_cases h:c∈aC.take j
   ·simp -implicitDefEqProofs only[↓reduceIte,go_sem,Nat.reduceLT,Nat.reduceEqDiff,t11,t12,h]
    refine dg.same ⟨rfl,?_⟩
    simp -implicitDefEqProofs only[↓reduceIte,go_sem,Nat.reduceLT,Nat.reduceEqDiff,t1,t2,t5,t6,t8,t9,t10,hw2,e2,h,true_or]
   ·simp -implicitDefEqProofs only[↓reduceIte,go_sem,ai,Nat.reduceAdd,Nat.reduceLT,Nat.reduceLeDiff,Nat.reduceEqDiff,reduceCtorEq,t1,t6,t10,t11,t12,h,hpb,hx,hy]
    rw[←hpb]
    refine dg.same ⟨rfl,?_⟩
    simp -implicitDefEqProofs only[↓reduceIte,go_sem,Nat.reduceLT,Nat.reduceEqDiff,t1,t2,t5,t6,t8,t9,t10,hw2,e2,h,false_or]
  ·rintro s H' ⟨rfl,t1,t2,t5,t6,t8,t9,t10,t11,t12⟩
   rw[List.take_length]at t11
   simp -implicitDefEqProofs only[↓reduceIte,go_sem,Nat.reduceLT,Nat.reduceEqDiff,t1,t12,aF]
   by_cases h:c∈aC
   case' pos=>
    rw[if_pos h]at e1
    simp -implicitDefEqProofs only[↓reduceIte,go_sem,Nat.reduceLT,Nat.reduceEqDiff,t11,h,t9,t10]
   case' neg=>
    rw[if_neg h]at e1
    simp -implicitDefEqProofs only[↓reduceIte,go_sem,Nat.reduceLT,Nat.reduceEqDiff,t11,h,t10]
   all_goals
    refine dg.same ⟨rfl,?_⟩
    rw[e1]
    simp -implicitDefEqProofs only[↓reduceIte,go_sem,Nat.reduceLT,Nat.reduceEqDiff,t1,t2,t5,t6,t8,t9,hw]
   rw[wrap64_in _ (by omega) (by omega)]
 ·rintro s H' ⟨rfl,t1,t2,t5,t6,t8,t9,t10⟩
  rw[List.take_length]at t9
  have hle:(pc.filter fun c=>decide (c∈aC)).length≤pc.length:=List.length_filter_le _ _
  generalize (pc.filter fun c=>decide (c∈aC)).length=n at*
  simp -implicitDefEqProofs only[↓reduceIte,go_sem,ai,Nat.reduceAdd,Nat.reduceLT,Nat.reduceLeDiff,Nat.reduceEqDiff,t6,t10,hpb,aF]
  refine bj K.mixed (by kernel_rfl) ?_
  simp -implicitDefEqProofs only[↓reduceIte,go_sem,ai,Nat.reduceAdd,Nat.reduceLT,Nat.reduceEqDiff,Int.reduceNeg,t5,t6,t8,hqb]
  refine ag.sub (.cons (.refl _) (.cons (.agg (.cons (.refl _) (.cons .nil (.cons .nil (.cons (.refl _) (.cons (.refl _) (.cons .nil (.cons .nil (.cons (.refl _) .nil))))))))) (.cons (.agg (.cons (.refl _) (.cons (.refl _) (.cons .nil (.cons (.refl _) (.cons (.refl _) .nil)))))) .nil))) (hco _) ?_
  simp -implicitDefEqProofs only[↓reduceIte,go_sem,ai,Nat.reduceAdd,Nat.reduceLT,Nat.reduceLeDiff,Nat.reduceEqDiff,Int.reduceNeg,t2,t9,htb,bQ]
  refine ay.ret ?_
  simp -implicitDefEqProofs only[↓reduceIte,go_sem,Nat.reduceLT,Int.reduceNeg]
  have hnr:n* t.rows.length≤20* 400:=Nat.mul_le_mul (by omega) hR
  rw[←Int.natCast_mul,wrap64_in _ (by omega) (by omega),cx _ (by omega) (by omega),decide_eq_true rfl]
theorem costPlain_does(x0:AV)(h0:j3 Tryz.prog 51 x0)(x1:AV)(h1:j3 Tryz.prog 23 x1):ah Tryz.prog 6 [x0,x1] [] (.ok (.d (.v (.bool true)))) []:=by
 obtain⟨t,rfl,ht⟩:=Ah h0
 obtain⟨d,rfl,hf⟩:=Ar h1 K.Br (sh:= .slice 8 [.int .i64]) (by kernel_rfl)
 obtain⟨l,rfl,hl,hn⟩:=jP hf
 exact mj t ht l (by omega) []
end Go.Proofs.YtfklokhopcmloaaGreat

/- Contracts of functions and lemmas for planAll_holds, part 10. -/
import Derived.Test.YtggohfhfocgilaaGreatM09
set_option maxHeartbeats 8000000
set_option maxRecDepth 100000
set_option linter.all false
namespace Go.Proofs.YtggohfhfocgilaaGreat
open Go.Proofs.YtggohfhfocgilaaGreatAw Go.RowKit
theorem n4(gf:FuncId)(caps:List AV)(C:aa→Prop)(l:List Pl)(H:aa)(hs:mz Tryz.prog gf caps C (l.map fun v=>[v.av]))(hC:∀T,C (H++T))(hl:l.length≤1000000000):
  ag Tryz.prog 108 [.d (.v (.slice none 0 0)),.fn gf caps] H (.ok (.d (.list false (l.map Pl.ds)))) H:=by
 refine ag.ai (hint:=(fun t=>t==2000000)) Tryz.func108 (by kernel_rfl) rfl [4] (by kernel_rfl) (by decide) (by simp[Tryz.ntmps108]) ?_
 rw[Tryz.ntmps108]
 simp -implicitDefEqProofs only[↓reduceIte,go_sem,Nat.reduceAdd,Nat.reduceLT,Nat.reduceEqDiff,Nat.reduceBEq]
 refine fM (fun _=>false) (fun k Hk=>Hk=H++[.box 64 1 0 1 [.sl (H.length+1) k 0 k],.arr 32 5 k ((l.take k).map Pl.ds)]) (fun _ _=>False) rfl rfl (ak.df _ _ H.length 64 1 0 1 [.d (.v (.slice none 0 0))] 0 _ 32 5 (by decide) (by simp) rfl rfl) (by simp -implicitDefEqProofs only[↓reduceIte,go_sem,Nat.reduceLT]) hs ?_ ?_ ?_ ?_ ?_ (fun _ _ h=>h.elim)
 ·intro v hv
  obtain⟨u,_,rfl⟩:=List.mem_map.1 hv
  exact⟨rfl,fun w hw=>by rw[List.mem_singleton.1 hw];rfl⟩
 ·simp -implicitDefEqProofs only[go_sem,List.take_zero]
 ·rintro k _ rfl
  exact⟨hC _,by simp -implicitDefEqProofs only[go_sem,Nat.reduceAdd]⟩
 ·rintro k hk _ rfl
  rw[List.length_map]at hk
  have e1:(l.take (k+1)).map Pl.ds=(l.take k).map Pl.ds++[l[k].ds]:=by rw[List.take_succ_eq_append_getElem hk,List.map_append];rfl
  have hlen:((l.take k).map Pl.ds).length=k:=by rw[List.length_map,List.length_take];omega
  rw[e1,List.getElem_map]
  generalize (l.take k).map Pl.ds=B at*
  generalize l[k]=v at*
  rw[show v.av= .agg [iA v.proj,bA v.late,.d (.list false (ints v.order)),iA v.rep,bA v.range]from rfl]
  simp -implicitDefEqProofs only[↓reduceIte,go_sem,ab,aq,Nat.reduceAdd,Nat.reduceLT,Nat.reduceLeDiff,Nat.reduceEqDiff,hlen]
  refine⟨by omega,by omega,?_⟩
  refine tC.cut [.box 64 1 0 1 [.sl (H.length+1) (k+1) 0 (k+1)],.arr 32 5 (k+1) (B++[v.ds])] _ rfl rfl (by simp -implicitDefEqProofs only[go_sem,Nat.reduceAdd]) (by simp -implicitDefEqProofs only[go_sem,Nat.reduceAdd,Nat.reduceLT]) ?_
  rfl
 ·rintro _ rfl
  rw[List.length_map,List.take_length]
  simp -implicitDefEqProofs only[↓reduceIte,go_sem,ab,Nat.reduceAdd,Nat.reduceLT,Nat.reduceEqDiff,Nat.reduceBEq]
  refine an.ret ?_
  simp -implicitDefEqProofs only[↓reduceIte,go_sem,Nat.reduceLT,List.take_of_length_le (show(l.map Pl.ds).length≤l.length by simp)]
theorem qk(gf:FuncId)(caps:List AV)(C:aa→Prop)(l:List Pl)(H:aa)(hs:mz Tryz.prog gf caps C (l.map fun v=>[v.av]))(hC:∀T,C (H++T))(hl:l.length≤1000000000):
  ag Tryz.prog 59 [.fn gf caps] H (.ok (.d (.list false (l.map Pl.ds)))) H:=by
 refine ag.ai (hint:=(fun _=>false)) Tryz.func59 (by kernel_rfl) rfl [2] (by kernel_rfl) (by decide) (by simp[Tryz.ntmps59]) ?_
 rw[Tryz.ntmps59]
 simp -implicitDefEqProofs only[↓reduceIte,go_sem,Nat.reduceLT,reduceCtorEq]
 refine ae.ok (n4 gf caps C l _ hs hC hl) ?_
 simp -implicitDefEqProofs only[↓reduceIte,go_sem,Nat.reduceLT]
 refine an.aI ?_
 simp -implicitDefEqProofs only[↓reduceIte,go_sem,Nat.reduceLT]
theorem Ep(L:List Pl):zP L=L.map fun v=>[v.av]:=rfl
theorem wJ(f:Fl)(hf:f.Ok)(q:Qu)(hq:q.Ok)(hl:(bJ f q).length≤1000000000)(H:aa):ag Tryz.prog 25 [f.av,q.av] H (.ok (.d (.list false ((bJ f q).map Pl.ds)))) H:=by
 obtain⟨v,ha⟩:=kT f q hq (H++[fB f,qB q])
 have hs:=BT f hf q hq (H.length+2) (H.length+3) (H.length+5)
 rw[Ep]at hs
 have hc:=qk _ _ _ (bJ f q) (H++[fB f,qB q,fB f,qB q,.arr 4 1 v [],rB q]) hs (fun T=>⟨by simp,by simp,by simp⟩) hl
 generalize bJ f q=L at*
 refine ag.ai (hint:=(fun _=>false)) Tryz.func25 (by kernel_rfl) rfl [4] (by kernel_rfl) (by decide) (by simp[Tryz.ntmps25]) ?_
 rw[Tryz.ntmps25]
 simp -implicitDefEqProofs only[↓reduceIte,go_sem,ab,Nat.reduceAdd,Nat.reduceLT,Nat.reduceEqDiff,Fl.av,Fl.ds,Qu.av,Qu.ds]
 refine ae.ok (by exact ha) ?_
 simp -implicitDefEqProofs only[↓reduceIte,go_sem,Nat.reduceAdd,Nat.reduceLT]
 refine ae.ok (by exact hc) ?_
 simp -implicitDefEqProofs only[↓reduceIte,go_sem,Nat.reduceLT]
 refine an.ret ?_
 simp -implicitDefEqProofs only[↓reduceIte,go_sem,Nat.reduceLT]
theorem k8{f:Fl}{q:Qu}{x:Pl}(h:x∈bJ f q):∃(i:Nat) (p:Pj),x.proj=i∧f.projs[i]?=some p∧dq p q=true∧x.range∈cJ q∧
  ((x.late=false∧x.order=upto q.pred.length∧x.rep=0)∨(x.late=true∧x.order∈bR q.pred.length∧1≤x.rep∧x.rep≤3)):=by
 unfold bJ cG at h
 obtain⟨i,hi,h⟩:=List.mem_flatMap.1 h
 cases e:f.projs[i]? with
 |none=>rw[e]at h;cases h
 |some p=>
  rw[e]at h
  simp only at h
  unfold iX at h
  split at h
  ·rename_i hc
   obtain⟨r,hr,h⟩:=List.mem_flatMap.1 h
   unfold dB at h
   rcases List.mem_cons.1 h with rfl|h
   ·exact⟨i,p,rfl,e,hc,hr,.inl ⟨rfl,rfl,rfl⟩⟩
   ·obtain⟨o,ho,h⟩:=List.mem_flatMap.1 h
    unfold bL at h
    simp only[List.mem_cons,List.not_mem_nil,or_false]at h
    rcases h with rfl|rfl|rfl<;>exact⟨i,p,rfl,e,hc,hr,.inr ⟨rfl,ho,by simp,by simp⟩⟩
  ·cases h
theorem je{f:Fl}{q:Qu}{x:Pl}(h:x∈bJ f q):x.order.length=q.pred.length:=by
 obtain⟨i,p,_,_,_,_,h|h⟩:=k8 h
 ·rw[h.2.1,eD]
 ·exact(ep _).2.2.2 _ h.2.1
def dM(f:Fl)(q:Qu)(x:Pl):Nat:=match f.projs[x.proj.toNat]? with|some p=>eN p q x|none=>0
def dh(f:Fl)(q:Qu)(o:Option (Pl×Nat))(x:Pl):Option (Pl×Nat):=match o with
 |none=>some (x,dM f q x)
 |some (b,n)=>if dM f q x<n then some (x,dM f q x)else some (b,n)
def eF(f:Fl)(q:Qu)(L:List Pl):Option (Pl×Nat):=L.foldl (dh f q) none
def mZ:List AV:=[iA 0,bA false,.d (.v (.slice none 0 0)),iA 0,bA false]
def Hc:Option (Pl×Nat)→List AV
 |none=>mZ
 |some (b,_)=>b.ds.map .d
def xu(o:Option (Pl×Nat)):Nat:=match o with|none=>0|some (_,n)=>n
def bO(o:Option (Pl×Nat)):aa:=[.box 32 5 0 1 (Hc o),.box 40 1 0 1 [du (xu o)],.box 4 1 0 1 [bA o.isSome]]
theorem Dt(o:Option (Pl×Nat)):(bO o).length=3:=rfl
theorem Dw(o:Option (Pl×Nat))(m:Nat):(bO o).all (ay.below m)=true:=by
 cases o with
 |none=>rfl
 |some x=>obtain⟨⟨a,b,c,d,e⟩,n⟩:=x;rfl
theorem Bm(f:Fl)(q:Qu)(x:Pl):dM f q x<18446744073709551616:=by unfold dM;split;exact kn _ _ _ _;omega
theorem u7(f:Fl)(q:Qu)(L:List Pl):xu (eF f q L)<18446744073709551616:=by
 have:∀(L:List Pl) (o:Option (Pl×Nat)),xu o<18446744073709551616→xu (L.foldl (dh f q) o)<18446744073709551616:=by
  intro L
  induction L with
  |nil=>exact fun o h=>h
  |cons x L ih=>
   intro o h
   refine ih _ ?_
   have:=Bm f q x
   unfold dh
   split
   ·exact this
   ·split
    ·exact this
    ·exact h
 exact this L none (by simp[xu])
def C9(o:Option (Pl×Nat)):mv:=match o with
 |none=> .ok (.a7 [.agg mZ,du 0,iA 6])
 |some (b,n)=> .ok (.a7 [b.av,du n,iA 0])
theorem qx(f:Fl)(hf:f.Ok)(q:Qu)(hq:q.Ok)(hl:(bJ f q).length≤1000000000)(H:aa):ag Tryz.prog 28 [f.av,q.av] H (C9 (eF f q (bJ f q))) H:=by
 obtain⟨v,ha⟩:=kT f q hq (H++([fB f,qB q,.box 32 5 0 1 mZ]++bO none))
 have hs:=BT f hf q hq (H.length+6) (H.length+7) (H.length+9)
 have hpl:∀x∈bJ f q,∃(i:Nat) (p:Pj),x.proj=i∧f.projs[i]?=some p∧dM f q x=eN p q x∧∀H,ag Tryz.prog 12 [p.av,q.av,x.av] H (.ok (du (eN p q x))) H:=fun x hx=>by
  have ho:=je hx
  obtain⟨i,p,h1,h2,_,_,h3⟩:=k8 hx
  refine⟨i,p,h1,h2,by simp[dM,h1,h2],fun H=>vf p (hf.all _ (List.mem_of_getElem? h2)) q hq x (by have:=hq.pred;omega) ?_ H⟩
  rcases h3 with h3|h3
  ·rw[h3.2.2];exact⟨by omega,by omega⟩
  ·exact⟨by omega,by omega⟩
 have hlt:=u7 f q
 have hbt:∀k (hk:k<(bJ f q).length),eF f q ((bJ f q).take (k+1))=dh f q (eF f q ((bJ f q).take k)) (bJ f q)[k]:=fun k hk=>by
  unfold eF
  rw[List.take_succ_eq_append_getElem hk,List.foldl_append];rfl
 have hfl:=hf.len
 generalize bJ f q=L at*
 refine ag.cA (hint:=fun t=>t==2000000) Tryz.func28 (by kernel_rfl) rfl [.cell 4 32,.tmp 5,.tmp 6] (by kernel_rfl) (by simp[Tryz.ntmps28]) ?_
 rw[Tryz.ntmps28]
 simp -implicitDefEqProofs only[↓reduceIte,go_sem,ab,aq,Nat.reduceAdd,Nat.reduceLT,Nat.reduceEqDiff,Nat.reduceBEq,Fl.av,Fl.ds,Qu.av,Qu.ds]
 refine ae.ok (by exact ha) ?_
 simp -implicitDefEqProofs only[go_sem]
 refine fM (fun _=>false) (fun k Hk=>Hk=H++([fB f,qB q,.box 32 5 0 1 mZ]++(bO (eF f q (L.take k))++[fB f,qB q,.arr 4 1 v [],rB q]))) (fun _ _=>False) (by kernel_rfl) (by kernel_rfl) (ak.refl _ _) (by simp -implicitDefEqProofs only[↓reduceIte,go_sem,Nat.reduceAdd,Nat.reduceLT,Dt]) hs ?_ ?_ ?_ ?_ ?_ (fun _ _ h=>h.elim)
 ·intro v hv
  obtain⟨u,_,rfl⟩:=List.mem_map.1 hv
  exact⟨rfl,fun w hw=>by rw[List.mem_singleton.1 hw];rfl⟩
 ·simp[bO,eF]
 ·rintro k _ rfl
  exact⟨⟨by simp[bO],by simp[bO],by simp[bO]⟩,by simp[bO]⟩
 ·rintro k hk _ rfl
  have hk:k<L.length:=by simpa[zP]using hk
  have hxi:(zP L)[k]'(by simpa[zP]using hk)=[L[k].av]:=by simp[zP]
  obtain⟨i,p,h1,h2,h3,h4⟩:=hpl L[k] (List.getElem_mem hk)
  have hi:=(List.getElem?_eq_some_iff.1 h2).1
  have hx:(f.projs.map Pj.ds)[i]?=some p.ds:=by simp[h2]
  have hb:=hbt k hk
  have hn:=hlt (L.take k)
  rw[hxi,hb]
  generalize eF f q (L.take k)=o at*
  generalize L[k]=x at*
  clear hb hbt hxi
  obtain⟨proj,late,order,rep,range⟩:=x
  simp only at h1
  subst h1
  rw[show(Pl.mk i late order rep range).av= .agg [iA i,bA late,.d (.list false (ints order)),iA rep,bA range]from rfl]
  simp -implicitDefEqProofs only[↓reduceIte,go_sem,aq,Nat.reduceAdd,Nat.reduceLT,Nat.reduceEqDiff,bO]
  refine aF K.mixed (by kernel_rfl) ?_
  simp -implicitDefEqProofs only[↓reduceIte,go_sem,ab,Nat.reduceAdd,Nat.reduceLT,Nat.reduceLeDiff,Nat.reduceEqDiff,Fl.ds,Qu.ds,hx,Pj.ds]
  refine ae.ok (by exact h4 _) ?_
  generalize eN p q ⟨i,late,order,rep,range⟩=c at*
  generalize hb2:dh f q o ⟨i,late,order,rep,range⟩=o2 at*
  have ho2:=hb2.symm
  unfold dh at ho2
  rw[h3]at ho2
  cases o
  case' none=>simp -implicitDefEqProofs only[↓reduceIte,go_sem,ab,aq,Nat.reduceAdd,Nat.reduceLT,Nat.reduceEqDiff,bO,xu,Hc,mZ]
  case' some b=>
   obtain⟨⟨b1,b2,b3,b4,b5⟩,n⟩:=b
   simp only[xu]at hn
   by_cases hc:c<n
   case' pos=>
    simp only[if_pos hc]at ho2
    simp -implicitDefEqProofs only[↓reduceIte,go_sem,ab,aq,Nat.reduceAdd,Nat.reduceLT,Nat.reduceEqDiff,reduceCtorEq,bO,xu,Hc,Pl.ds,hc]
   case' neg=>
    simp only[if_neg hc]at ho2
    simp -implicitDefEqProofs only[↓reduceIte,go_sem,ab,Nat.reduceAdd,Nat.reduceLT,Nat.reduceEqDiff,reduceCtorEq,bO,xu,Hc,Pl.ds,hc]
  all_goals
   refine tC.cut ([fB f,qB q,.box 32 5 0 1 mZ]++(bO o2++[fB f,qB q,.arr 4 1 v [],rB q])) _ (by rw[ho2];rfl) rfl (by simp -implicitDefEqProofs only[go_sem,Nat.reduceAdd,Dt]) (by rw[List.all_append,List.all_append,Dw];simp -implicitDefEqProofs only[go_sem,Nat.reduceAdd,Fl.ds,Qu.ds,mZ]) ?_
   rfl
 ·rintro _ rfl
  rw[show(zP L).length=L.length by simp[zP],List.take_length]
  have hn:=hlt L
  generalize eF f q L=o at*
  cases o with
  |none=>
   simp -implicitDefEqProofs only[↓reduceIte,go_sem,ab,aq,Nat.reduceAdd,Nat.reduceLT,Nat.reduceEqDiff,Nat.reduceBEq,bO,xu,Hc,mZ,Option.isSome_none]
   refine cV.ret ?_
   simp -implicitDefEqProofs only[↓reduceIte,go_sem,ab,Nat.reduceAdd,Nat.reduceLT,Nat.reduceLeDiff,Nat.reduceEqDiff,bH,cX,mZ]
   rfl
  |some b=>
   obtain⟨⟨b1,b2,b3,b4,b5⟩,n⟩:=b
   simp -implicitDefEqProofs only[↓reduceIte,go_sem,ab,Nat.reduceAdd,Nat.reduceLT,Nat.reduceEqDiff,Nat.reduceBEq,bO,xu,Hc,Pl.ds,mZ,Option.isSome_some]
   have hE:∀cs,Ext (H++[fB f,qB q,.dead 0,.box 32 5 0 1 [iA b1,bA b2,.d (.list false (ints b3)),iA b4,bA b5],.box 40 1 0 1 [du n],.box 4 1 0 1 [bA true],fB f,qB q,.arr 4 1 v [],rB q])
     (H++[fB f,qB q,.box 32 5 0 1 cs,.box 32 5 0 1 [iA b1,bA b2,.d (.list false (ints b3)),iA b4,bA b5],.box 40 1 0 1 [du n],.box 4 1 0 1 [bA true],fB f,qB q,.arr 4 1 v [],rB q]):=fun cs=>
    Ext.dC H ⟨fun _=>rfl,fun _=>rfl,fun h=>(by cases h),fun _=>rfl,fun _=>rfl,fun _=>rfl,fun _=>rfl,fun _=>rfl,fun _=>rfl,fun _=>rfl,trivial⟩
   refine rQ [none,none,some true] 2 _ K.mixed (by kernel_rfl) (by kernel_rfl) (by kernel_rfl) (hE _) ?_
   simp -implicitDefEqProofs only[↓reduceIte,go_sem,ab,aq,Nat.reduceAdd,Nat.reduceLT,Nat.reduceEqDiff]
   refine⟨hE _,?_⟩
   refine cV.ret ?_
   simp -implicitDefEqProofs only[↓reduceIte,go_sem,ab,Nat.reduceAdd,Nat.reduceLT,Nat.reduceLeDiff,Nat.reduceEqDiff,bH,cX]
   rfl
def yM(f:Fl)(q:Qu)(k:Nat):Nat:=((f.projs.take k).filter fun p=>dq p q).length
def Dz(q:Qu):Nat:=(cJ q).length* (1+3* (bR q.pred.length).length)
theorem kq(i:Nat)(r:Bool):∀os:List (List Int),(os.flatMap (bL i r)).length=3* os.length
 |[]=>rfl
 |o::os=>by rw[List.flatMap_cons,List.length_append,kq i r os,List.length_cons];simp[bL];omega
theorem xR(q:Qu)(i:Nat)(p:Pj):(iX q i p).length=if dq p q then Dz q else 0:=by
 have:∀rs:List Bool,(rs.flatMap (dB i q.pred.length)).length=rs.length* (1+3* (bR q.pred.length).length):=by
  intro rs
  induction rs with
  |nil=>simp
  |cons r rs ih=>rw[List.flatMap_cons,List.length_append,ih,List.length_cons,Nat.succ_mul rs.length,show(dB i q.pred.length r).length=1+3* (bR q.pred.length).length from by unfold dB;rw[List.length_cons,kq];omega];omega
 unfold iX
 split
 ·exact this _
 ·rfl
theorem Bf(f:Fl)(q:Qu){k:Nat}(h:k<f.projs.length):yM f q (k+1)=yM f q k+if dq f.projs[k] q then 1 else 0:=by
 unfold yM
 rw[List.take_succ_eq_append_getElem h,List.filter_append,List.length_append]
 cases hc:dq f.projs[k] q<;>simp[hc]
theorem za(f:Fl)(q:Qu)(k:Nat):yM f q k≤k:=Nat.le_trans (List.length_filter_le _ _) (List.length_take_le _ _)
theorem lF(f:Fl)(q:Qu):∀k,k≤f.projs.length→(cG f q k).length=yM f q k* Dz q
 |0,_=>by simp[cG,yM]
 |k+1,h=>by
  rw[gM f q (by omega),List.length_append,lF f q k (by omega),xR,Bf f q (by omega),Nat.add_mul]
  split<;>simp
theorem nQ(q:Qu):(cJ q).length=if 0<q.aE.length then 2 else 1:=by unfold cJ;split<;>rfl
theorem zt(q:Qu):Dz q≤146:=by
 have h:=(ep q.pred.length).2.2.1
 unfold Dz
 rw[nQ]
 have:(if 0<q.aE.length then 2 else 1)≤2:=by split<;>omega
 exact Nat.le_trans (Nat.mul_le_mul this (show 1+3* (bR q.pred.length).length≤73 by omega)) (by omega)
theorem wK(f:Fl)(q:Qu):(bJ f q).length=yM f q f.projs.length* Dz q:=lF f q _ (Nat.le_refl _)
theorem Aa(f:Fl)(q:Qu)(h:f.projs.length≤3):(bJ f q).length≤438:=by
 rw[wK]
 exact Nat.le_trans (Nat.mul_le_mul (Nat.le_trans (za _ _ _) h) (zt q)) (by omega)
theorem wi(f:Fl)(q:Qu)(L:List Pl):match eF f q L with|none=>L=[]|some (b,n)=>b∈L∧n=dM f q b∧∀x∈L,n≤dM f q x:=by
 have:∀(L M:List Pl) (o:Option (Pl×Nat)),(match o with|none=>M=[]|some (b,n)=>b∈M∧n=dM f q b∧∀x∈M,n≤dM f q x)→match L.foldl (dh f q) o with|none=>M++L=[]|some (b,n)=>b∈M++L∧n=dM f q b∧∀x∈M++L,n≤dM f q x:=by
  intro L
  induction L with
  |nil=>intro M o h;simpa using h
  |cons x L ih=>
   intro M o h
   have:=ih (M++[x]) (dh f q o x) ?_
   ·rw[List.append_assoc]at this;exact this
   ·cases o with
    |none=>
     simp only at h
     subst h
     exact⟨by simp,rfl,fun y hy=>by simp at hy;rw[hy];exact Nat.le_refl _⟩
    |some bn=>
     obtain⟨b,n⟩:=bn
     obtain⟨h1,h2,h3⟩:=h
     unfold dh
     by_cases hc:dM f q x<n
     ·simp only[if_pos hc]
      refine⟨by simp,by first|trivial|rfl,fun y hy=>?_⟩
      rcases List.mem_append.1 hy with hy|hy
      ·have:=h3 y hy;omega
      ·rw[List.mem_singleton.1 hy];exact Nat.le_refl _
     ·simp only[if_neg hc]
      refine⟨List.mem_append_left _ h1,h2,fun y hy=>?_⟩
      rcases List.mem_append.1 hy with hy|hy
      ·exact h3 y hy
      ·rw[List.mem_singleton.1 hy];omega
 exact this L [] none rfl
def Qu.small(n:Nat)(q:Qu):Prop:=q.pred.length≤n∧q.aE.length≤n∧q.aC.length≤n∧q.bF.length≤n
instance (n:Nat) (q:Qu):Decidable (q.small n):=by unfold Qu.small;infer_instance
theorem Qu.small.ok{n:Nat}{q:Qu}(h:q.small n)(hn:n≤100):q.Ok:=by obtain⟨h1,h2,h3,h4⟩:=h;exact⟨by omega,by omega,by omega,by omega⟩
theorem so(q:Qu)(H:aa):ag Tryz.prog 23 [q.av] H (.ok (bA (decide (q.small 6)))) H:=by
 have c1:∀n:Nat,((n:Int)≤6)=(n≤6):=fun n=>by simp;omega
 unfold Qu.small
 refine ag.ai (hint:=(fun _=>false)) Tryz.func23 (by kernel_rfl) rfl [2] (by kernel_rfl) (by decide) (by simp[Tryz.ntmps23]) ?_
 rw[Tryz.ntmps23]
 simp -implicitDefEqProofs only[↓reduceIte,go_sem,ab,Nat.reduceAdd,Nat.reduceLT,Nat.reduceLeDiff,Nat.reduceEqDiff,Qu.av,Qu.ds]
 by_cases h1:q.pred.length≤6
 case' pos=>
  by_cases h2:q.aE.length≤6
  case' pos=>
   by_cases h3:q.aC.length≤6
   case' pos=>by_cases h4:q.bF.length≤6
 all_goals
  simp -implicitDefEqProofs only[↓reduceIte,go_sem,ab,Nat.reduceAdd,Nat.reduceLT,Nat.reduceLeDiff,Nat.reduceEqDiff,reduceCtorEq,List.length_map,ao, *]
  refine an.ret ?_
  simp -implicitDefEqProofs only[↓reduceIte,go_sem,Nat.reduceLT]<;>simp[*]
theorem np(a b:Pl)(ha:a.order.length≤1000000000)(H:aa):ag Tryz.prog 27 [a.av,b.av] H (.ok (bA (decide (a=b)))) H:=by
 obtain⟨p1,l1,o1,r1,g1⟩:=a
 obtain⟨p2,l2,o2,r2,g2⟩:=b
 simp only at ha
 rw[show decide (Pl.mk p1 l1 o1 r1 g1=Pl.mk p2 l2 o2 r2 g2)=decide (p1=p2∧l1=l2∧o1=o2∧r1=r2∧g1=g2)from by simp]
 have hol:o1=o2→(o1.length:Int)=o2.length:=fun h=>by rw[h]
 have qb:∀a b:Bool,(a !=b)= !decide (a=b):=by decide
 refine ag.ai (hint:=(fun _=>false)) Tryz.func27 (by kernel_rfl) rfl [4] (by kernel_rfl) (by decide) (by simp[Tryz.ntmps27]) ?_
 rw[Tryz.ntmps27]
 simp -implicitDefEqProofs only[↓reduceIte,go_sem,ab,Nat.reduceAdd,Nat.reduceLT,Nat.reduceLeDiff,Nat.reduceEqDiff,Pl.av,Pl.ds]
 by_cases h1:p1=p2
 case' pos=>
  by_cases h2:l1=l2
  case' pos=>
   by_cases h3:r1=r2
   case' pos=>
    by_cases h4:g1=g2
    case' pos=>by_cases h5:(o1.length:Int)=o2.length
 case pos=>
  subst h1 h2 h3 h4
  simp -implicitDefEqProofs only[↓reduceIte,go_sem,ab,Nat.reduceAdd,Nat.reduceLT,Nat.reduceLeDiff,Nat.reduceEqDiff,reduceCtorEq,h5,qb,ao]
  have h5:o1.length=o2.length:=by omega
  refine aA (fun k s H'=>o1.take k=o2.take k∧H'=H++[.box 32 5 0 1 [iA p1,bA l1,.d (.list false (ints o1)),iA r1,bA g1],.box 32 5 0 1 [iA p1,bA l1,.d (.list false (ints o2)),iA r1,bA g1]]∧s 2= .ptr H.length 0 0 0∧s 3= .ptr (H.length+1) 0 0 0∧s 5=iA k) o1.length (by omega) (ak.refl _ _) ?_ ?_ ?_
  ·refine⟨rfl,rfl,?_⟩
   simp -implicitDefEqProofs only[↓reduceIte,go_sem,Nat.reduceLT,Nat.reduceEqDiff]
  ·rintro k s H' hk hw ⟨he,rfl,t2,t3,t5⟩
   have hx:=bD o1 k hk
   have hy:=bD o2 k (by omega)
   have e1:=List.take_succ_eq_append_getElem hk
   have e2:=List.take_succ_eq_append_getElem (show k<o2.length by omega)
   have hne:¬o1[k]=o2[k]→¬o1=o2:=fun h e=>by subst e;exact h rfl
   generalize o1[k]=x at*
   generalize o2[k]=y at*
   simp -implicitDefEqProofs only[↓reduceIte,go_sem,ab,Nat.reduceAdd,Nat.reduceLT,Nat.reduceLeDiff,Nat.reduceEqDiff,t2,t5,ao,hk]
   refine aF K.mixed (by kernel_rfl) ?_
   by_cases hxy:x=y
   ·simp -implicitDefEqProofs only[↓reduceIte,go_sem,ab,Nat.reduceAdd,Nat.reduceLT,Nat.reduceLeDiff,Nat.reduceEqDiff,t2,t3,t5,hx,hy,hxy]
    refine cl.same ⟨by rw[e1,e2,he,hxy],rfl,?_⟩
    simp -implicitDefEqProofs only[↓reduceIte,go_sem,Nat.reduceLT,Nat.reduceEqDiff,t2,t3,hw]
   ·simp -implicitDefEqProofs only[↓reduceIte,go_sem,ab,Nat.reduceAdd,Nat.reduceLT,Nat.reduceLeDiff,Nat.reduceEqDiff,t2,t3,t5,hx,hy,hxy]
    refine an.ret ?_
    simp -implicitDefEqProofs only[↓reduceIte,go_sem,Nat.reduceLT]
    simp[hne hxy]
  ·rintro s H' ⟨he,rfl,t2,t3,t5⟩
   rw[List.take_length,h5,List.take_length]at he
   simp -implicitDefEqProofs only[↓reduceIte,go_sem,ab,Nat.reduceAdd,Nat.reduceLT,Nat.reduceLeDiff,Nat.reduceEqDiff,t2,t5,ao]
   refine an.ret ?_
   simp -implicitDefEqProofs only[↓reduceIte,go_sem,Nat.reduceLT]
   simp[he]
 all_goals
  simp -implicitDefEqProofs only[↓reduceIte,go_sem,ab,Nat.reduceAdd,Nat.reduceLT,Nat.reduceLeDiff,Nat.reduceEqDiff,reduceCtorEq,ao, *]
  refine an.ret ?_
  simp -implicitDefEqProofs only[↓reduceIte,go_sem,Nat.reduceLT]<;>simp[*]
 exact fun h=>absurd (hol h) h5
structure Zn.pU (z:Zn):Prop where
 mn:z.mn.s.size≤140737488351232
 mx:z.mx.s.size≤140737488351232
theorem lr(z:Zn)(hz:z.pU)(a:Atom)(H:aa):ag Tryz.prog 102 [z.av,a.av] H (.ok (bA (gm z a))) H:=by
 have h5:=fun H=>nD z.mn a.val (by have:=hz.mn;omega) H
 have h6:=fun H=>nD z.mx a.val (by have:=hz.mx;omega) H
 unfold gm va
 have a1:∀x y:al,decide (aO x y<0)=decide (0<aO y x):=fun x y=>decide_eq_decide.2 (eE.gj x y)
 rw[a1 a.val z.mn,a1 a.val z.mx]
 generalize aO z.mn a.val=c5 at*
 generalize aO z.mx a.val=c6 at*
 obtain⟨ac,o,av⟩:=a
 simp only at h5 h6⊢
 refine ag.ai (hint:=(fun _=>false)) Tryz.func102 (by kernel_rfl) rfl [4] (by kernel_rfl) (by decide) (by simp[Tryz.ntmps102]) ?_
 rw[Tryz.ntmps102]
 simp -implicitDefEqProofs only[↓reduceIte,go_sem,ab,Nat.reduceAdd,Nat.reduceLT,Nat.reduceLeDiff,Nat.reduceEqDiff]
 by_cases o7:o=7
 ·simp -implicitDefEqProofs only[↓reduceIte,go_sem,ab,Nat.reduceAdd,Nat.reduceLT,Nat.reduceLeDiff,Nat.reduceEqDiff,o7,su]
  refine an.ret ?_
  simp -implicitDefEqProofs only[↓reduceIte,go_sem,Nat.reduceLT]<;>simp[*]
 by_cases hb:z.rows≤z.cD
 ·simp -implicitDefEqProofs only[↓reduceIte,go_sem,ab,Nat.reduceAdd,Nat.reduceLT,Nat.reduceLeDiff,Nat.reduceEqDiff,o7,hb]
  refine an.ret ?_
  simp -implicitDefEqProofs only[↓reduceIte,go_sem,Nat.reduceLT]<;>simp[*]
 by_cases o8:o=8
 ·simp -implicitDefEqProofs only[↓reduceIte,go_sem,ab,Nat.reduceAdd,Nat.reduceLT,Nat.reduceLeDiff,Nat.reduceEqDiff,Int.reduceEq,o8,hb]
  refine an.ret ?_
  simp -implicitDefEqProofs only[↓reduceIte,go_sem,Nat.reduceLT]<;>simp[*]
 by_cases hk:z.mn.kind=av.kind
 case neg=>
  simp -implicitDefEqProofs only[↓reduceIte,go_sem,ab,Nat.reduceAdd,Nat.reduceLT,Nat.reduceLeDiff,Nat.reduceEqDiff,o7,o8,hb,hk]
  refine an.ret ?_
  simp -implicitDefEqProofs only[↓reduceIte,go_sem,Nat.reduceLT]<;>simp[*]
 simp -implicitDefEqProofs only[↓reduceIte,go_sem,ab,Nat.reduceAdd,Nat.reduceLT,Nat.reduceLeDiff,Nat.reduceEqDiff,o7,o8,hb,eq_true hk]
 refine ae.ok (h5 _) ?_
 simp -implicitDefEqProofs only[↓reduceIte,go_sem,ab,Nat.reduceAdd,Nat.reduceLT,Nat.reduceEqDiff]
 refine ae.ok (h6 _) ?_
 simp -implicitDefEqProofs only[↓reduceIte,go_sem,ab,Nat.reduceAdd,Nat.reduceLT,Nat.reduceLeDiff,Nat.reduceEqDiff]
 by_cases o1:o=1
 ·by_cases e:0<c5
  all_goals
   simp -implicitDefEqProofs only[↓reduceIte,go_sem,Nat.reduceLT,Nat.reduceEqDiff,Int.reduceEq,reduceCtorEq,o1,e]
   refine an.ret ?_
   simp -implicitDefEqProofs only[↓reduceIte,go_sem,Nat.reduceLT]<;>simp[*]
 by_cases o2:o=2
 ·by_cases e:c5=0
  all_goals
   simp -implicitDefEqProofs only[↓reduceIte,go_sem,Nat.reduceLT,Nat.reduceEqDiff,Int.reduceEq,reduceCtorEq,o2,e]
   refine an.ret ?_
   simp -implicitDefEqProofs only[↓reduceIte,go_sem,Nat.reduceLT]<;>simp[*]
 by_cases o3:o=3
 case' neg=>
  by_cases o4:o=4
  case' neg=>
   by_cases o5:o=5
   case' neg=>by_cases o6:o=6
 all_goals
  simp -implicitDefEqProofs only[↓reduceIte,go_sem,Nat.reduceLT,Nat.reduceEqDiff,Int.reduceEq, *]
  refine an.ret ?_
  simp -implicitDefEqProofs only[↓reduceIte,go_sem,Nat.reduceLT]<;>simp[*]<;>first|omega|(rw[Bool.eq_iff_iff];simp<;>omega)
theorem we(z:Zn)(hz:z.pU)(a:Atom)(H:aa):ag Tryz.prog 145 [z.av,a.av] H (.ok (bA (kU z a))) H:=by
 have he:=fun H=>lr z hz ⟨a.dN,jw a.op,a.val⟩ H
 unfold kU
 obtain⟨ac,o,av⟩:=a
 simp only at he⊢
 have hto:jw o=0↔o<1∨6<o:=by unfold jw;repeat' split<;>omega
 refine ag.ai (hint:=(fun _=>false)) Tryz.func145 (by kernel_rfl) rfl [4] (by kernel_rfl) (by decide) (by simp[Tryz.ntmps145]) ?_
 rw[Tryz.ntmps145]
 simp -implicitDefEqProofs only[↓reduceIte,go_sem,ab,Nat.reduceAdd,Nat.reduceLT,Nat.reduceLeDiff,Nat.reduceEqDiff]
 by_cases o7:o=7
 ·simp -implicitDefEqProofs only[↓reduceIte,go_sem,ab,Nat.reduceAdd,Nat.reduceLT,Nat.reduceLeDiff,Nat.reduceEqDiff,o7]
  refine an.ret ?_
  simp -implicitDefEqProofs only[↓reduceIte,go_sem,Nat.reduceLT,o7]
 by_cases o8:o=8
 ·simp -implicitDefEqProofs only[↓reduceIte,go_sem,ab,Nat.reduceAdd,Nat.reduceLT,Nat.reduceLeDiff,Nat.reduceEqDiff,Int.reduceEq,o8,su]
  refine an.ret ?_
  simp -implicitDefEqProofs only[↓reduceIte,go_sem,Nat.reduceLT,Int.reduceEq,o8]
 by_cases hn:0<(z.cD:Int)
 ·simp -implicitDefEqProofs only[↓reduceIte,go_sem,ab,Nat.reduceAdd,Nat.reduceLT,Nat.reduceLeDiff,Nat.reduceEqDiff,o7,o8,hn]
  refine an.ret ?_
  rw[if_neg o7,if_neg o8,if_pos (.inr (.inl (by omega)))]
  simp -implicitDefEqProofs only[↓reduceIte,go_sem,Nat.reduceLT]
 by_cases hk:z.mn.kind=av.kind
 case neg=>
  simp -implicitDefEqProofs only[↓reduceIte,go_sem,ab,Nat.reduceAdd,Nat.reduceLT,Nat.reduceLeDiff,Nat.reduceEqDiff,reduceCtorEq,o7,o8,hn,hk]
  refine an.ret ?_
  rw[if_neg o7,if_neg o8,if_pos (.inr (.inr hk))]
  simp -implicitDefEqProofs only[↓reduceIte,go_sem,Nat.reduceLT]
 by_cases h1:o<1
 ·simp -implicitDefEqProofs only[↓reduceIte,go_sem,ab,Nat.reduceAdd,Nat.reduceLT,Nat.reduceLeDiff,Nat.reduceEqDiff,reduceCtorEq,o7,o8,hn,eq_true hk,h1]
  refine an.ret ?_
  rw[if_neg o7,if_neg o8,if_pos (.inl (hto.2 (.inl h1)))]
  simp -implicitDefEqProofs only[↓reduceIte,go_sem,Nat.reduceLT]
 by_cases h6:6<o
 ·simp -implicitDefEqProofs only[↓reduceIte,go_sem,ab,Nat.reduceAdd,Nat.reduceLT,Nat.reduceLeDiff,Nat.reduceEqDiff,reduceCtorEq,o7,o8,hn,eq_true hk,h1,h6]
  refine an.ret ?_
  rw[if_neg o7,if_neg o8,if_pos (.inl (hto.2 (.inr h6)))]
  simp -implicitDefEqProofs only[↓reduceIte,go_sem,Nat.reduceLT]
 have htn:¬jw o=0:=fun h=>by rcases hto.1 h with h|h<;>omega
 rw[if_neg o7,if_neg o8,if_neg (by rintro(h|h|h);exact htn h;omega;exact h hk)]
 generalize hg:jw o=t at*
 generalize gm z ⟨ac,t,av⟩=e at*
 simp -implicitDefEqProofs only[↓reduceIte,go_sem,ab,Nat.reduceAdd,Nat.reduceLT,Nat.reduceLeDiff,Nat.reduceEqDiff,reduceCtorEq,o7,o8,hn,eq_true hk,h1,h6]
 obtain⟨n,rfl⟩:=Int.eq_ofNat_of_zero_le (show 0≤o by omega)
 rcases n with _|_|_|_|_|_|_|n
 ·omega
 case succ.succ.succ.succ.succ.succ.succ=>omega
 all_goals
  simp -implicitDefEqProofs only[↓reduceIte,go_sem,ab,aq,Nat.reduceAdd,Nat.reduceLT,Nat.reduceLeDiff,Nat.reduceEqDiff,Int.reduceLE,Int.reduceEq,Int.reduceToNat]
  refine ae.ok (by rw[←hg]at he;exact he _) ?_
  simp -implicitDefEqProofs only[↓reduceIte,go_sem,Nat.reduceAdd,Nat.reduceLT,Int.reduceEq]
  refine an.ret ?_
  simp -implicitDefEqProofs only[↓reduceIte,go_sem,Nat.reduceLT]
theorem xh(z:Zn)(hz:z.pU)(a:Atom)(hr:z.rows≤1000000000)(H:aa):ag Tryz.prog 105 [z.av,a.av] H (.ok (iA (jG z a))) H:=by
 have h1:=fun H=>lr z hz a H
 have h2:=fun H=>we z hz a H
 unfold jG
 generalize gm z a=b1 at*
 generalize kU z a=b2 at*
 refine ag.ai (hint:=(fun _=>false)) Tryz.func105 (by kernel_rfl) rfl [4] (by kernel_rfl) (by decide) (by simp[Tryz.ntmps105]) ?_
 rw[Tryz.ntmps105]
 simp -implicitDefEqProofs only[↓reduceIte,go_sem,ab,Nat.reduceAdd,Nat.reduceLT,Nat.reduceEqDiff]
 refine ae.ok (h1 _) ?_
 cases b1
 case' false=>
  simp -implicitDefEqProofs only[↓reduceIte,go_sem,ab,Nat.reduceAdd,Nat.reduceLT,Nat.reduceEqDiff]
  refine ae.ok (h2 _) ?_
  cases b2
  case' false=>
   have hw1:IntKind.i64.wrap (((z.rows/2:Nat):Int)+1)=((z.rows/2:Nat):Int)+1:=wrap64_in _ (by omega) (by omega)
   have he:IntKind.i64.wrap ((z.rows:Int).tdiv 2)=((z.rows/2:Nat):Int):=by rw[Int.tdiv_eq_ediv_of_nonneg (by omega),wrap64_in _ (by omega) (by omega)];omega
   generalize hq:z.rows/2=q at*
   by_cases hm:(z.rows:Int).tmod 2=1
   case' pos=>have hr2:z.rows%2=1:=by rw[Int.tmod_eq_emod_of_nonneg (by omega)]at hm;omega
   case' neg=>have hr2:z.rows%2=0:=by rw[Int.tmod_eq_emod_of_nonneg (by omega)]at hm;omega
   all_goals simp -implicitDefEqProofs only[↓reduceIte,go_sem,ab,Nat.reduceAdd,Nat.reduceLT,Nat.reduceLeDiff,Nat.reduceEqDiff,Int.reduceEq,he,hm]
 all_goals
  simp -implicitDefEqProofs only[↓reduceIte,go_sem,ab,Nat.reduceAdd,Nat.reduceLT,Nat.reduceLeDiff,Nat.reduceEqDiff]
  refine an.ret ?_
  simp -implicitDefEqProofs only[↓reduceIte,go_sem,Nat.reduceLT,reduceCtorEq, *]<;>simp[*]
structure Pj.pU (p:Pj):Prop where
 str:∀l∈p.bl,∀s∈l,s.eZ.pU
theorem Pj.pU.eZ{p:Pj}(hp:p.pU){n:Int}{z:Zn}(h:z∈aL p.bl n):z.pU:=by
 unfold aL at h
 split at h
 ·cases h
 ·obtain⟨l,hl,rfl⟩:=List.mem_map.1 h
  unfold cQ
  rw[List.getD_eq_getElem?_getD,List.getElem?_map]
  cases e:l[n.toNat]? with
  |none=>exact⟨by decide,by decide⟩
  |some s=>exact hp.str l hl s (List.mem_of_getElem? e)
theorem lI(p:Pj)(H:aa):ag Tryz.prog 50 [p.av] H (.ok (iA (bq p.bl))) H:=by
 obtain⟨cs,key,rows,S⟩:=p
 refine ag.ai (hint:=(fun _=>false)) Tryz.func50 (by kernel_rfl) rfl [2] (by kernel_rfl) (by decide) (by simp[Tryz.ntmps50]) ?_
 rw[Tryz.ntmps50]
 cases S with
 |nil=>
  simp -implicitDefEqProofs only[↓reduceIte,go_sem,ab,Nat.reduceAdd,Nat.reduceLT,Nat.reduceEqDiff,Pj.av,Pj.ds,bg]
  refine an.ret ?_
  simp -implicitDefEqProofs only[↓reduceIte,go_sem,Nat.reduceLT,bq]
 |cons l S=>
  simp -implicitDefEqProofs only[↓reduceIte,go_sem,ab,Nat.reduceAdd,Nat.reduceLT,Nat.reduceEqDiff,Int.reduceLE,Int.reduceToNat,Pj.av,Pj.ds,bg,show ¬((S.length:Int)+1=0) by omega]
  refine an.ret ?_
  simp -implicitDefEqProofs only[↓reduceIte,go_sem,Nat.reduceLT,bq]
theorem vC(p:Pj)(hp:p.aC.length≤1000000000)(x:Int)(H:aa):ag Tryz.prog 101 [p.av,iA x] H (.ok (iA (cS x p.aC))) H:=by
 obtain⟨l,key,rows,S⟩:=p
 simp only at hp⊢
 refine ag.ai (hint:=(fun _=>false)) Tryz.func101 (by kernel_rfl) rfl [4] (by kernel_rfl) (by decide) (by simp[Tryz.ntmps101]) ?_
 rw[Tryz.ntmps101]
 simp -implicitDefEqProofs only[↓reduceIte,go_sem,Nat.reduceAdd,Nat.reduceLT,Int.reduceNeg,Pj.av,Pj.ds]
 refine aA (fun k s H'=>H'=H++[.box 45 4 0 1 [.d (.list false (ints l)),.d (.list false (ints key)),iA rows,.d (.list false (bg S))]]∧(∀i (hi:i<k) (hl:i<l.length),¬l[i]=x)∧s 1=iA x∧s 2= .ptr H.length 0 0 0∧s 5=iA k) l.length (by omega) (ak.refl _ _) ?_ ?_ ?_
 ·refine⟨rfl,fun i hi=>by omega,?_⟩
  simp -implicitDefEqProofs only[↓reduceIte,go_sem,Nat.reduceLT,Nat.reduceEqDiff]
 ·rintro k s H' hk hw ⟨rfl,hp,t1,t2,t5⟩
  have hx:=bD l k hk
  have hit:l[k]=x→cS x l=k:=fun e=>by rw[←e];exact pa hk fun i hi hl'=>by rw[e];exact hp i hi hl'
  have hpp:¬l[k]=x→∀i (hi:i<k+1) (hl:i<l.length),¬l[i]=x:=fun h0 i hi hl'=>by
   rcases Nat.lt_or_ge i k with h|h
   ·exact hp i h hl'
   ·obtain rfl:i=k:=by omega
    exact h0
  generalize l[k]=y at*
  by_cases hy:y=x
  ·simp -implicitDefEqProofs only[↓reduceIte,go_sem,ab,Nat.reduceAdd,Nat.reduceLT,Nat.reduceLeDiff,Nat.reduceEqDiff,t1,t2,t5,ao,hk,hx,hy]
   refine an.ret ?_
   simp -implicitDefEqProofs only[↓reduceIte,go_sem,Nat.reduceLT,hit hy]
  ·simp -implicitDefEqProofs only[↓reduceIte,go_sem,ab,Nat.reduceAdd,Nat.reduceLT,Nat.reduceLeDiff,Nat.reduceEqDiff,t1,t2,t5,ao,hk,hx,hy]
   refine cl.same ⟨rfl,hpp hy,?_⟩
   simp -implicitDefEqProofs only[↓reduceIte,go_sem,Nat.reduceLT,Nat.reduceEqDiff,t1,t2,hw]
 ·rintro s H' ⟨rfl,hp,t1,t2,t5⟩
  simp -implicitDefEqProofs only[↓reduceIte,go_sem,ab,Nat.reduceAdd,Nat.reduceLT,Nat.reduceLeDiff,Nat.reduceEqDiff,Int.reduceNeg,t2,t5,ao]
  refine an.ret ?_
  simp -implicitDefEqProofs only[↓reduceIte,go_sem,Nat.reduceLT,Int.reduceNeg,m4 fun i hi=>hp i hi hi]
theorem nk(p:Pj)(hp:p.Ok)(n:Int)(hn:iJ n)(H:aa):ag Tryz.prog 54 [p.av,iA n] H (.ok (.d (.list false ((aL p.bl n).map Zn.ds)))) H:=by
 have hg:=fun H=>lI p H
 have hm:=hp.many
 have hl:=hp.len
 have hs:=hp.same
 unfold aL
 by_cases h:n<0∨(bq p.bl:Int)≤n
 ·rw[if_pos h]
  suffices hh:ag Tryz.prog 54 [p.av,iA n] H (.ok (.d (.v (.slice none 0 0)))) H from hh.FZ .nil
  have hS0:p.bl.length=0→bq p.bl=0:=fun e=>by rw[List.eq_nil_of_length_eq_zero e];rfl
  obtain⟨cs,key,rows,S⟩:=p
  simp only at*
  generalize bq S=g at*
  refine ag.ai (hint:=(fun _=>false)) Tryz.func54 (by kernel_rfl) rfl [4] (by kernel_rfl) (by decide) (by simp[Tryz.ntmps54]) ?_
  rw[Tryz.ntmps54]
  simp -implicitDefEqProofs only[↓reduceIte,go_sem,Nat.reduceAdd,Nat.reduceLT,Pj.av,Pj.ds]
  refine aA (fun k s H'=>k=0∧H'=H++[.box 45 4 0 1 [.d (.list false (ints cs)),.d (.list false (ints key)),iA rows,.d (.list false (bg S))]]∧s 1=iA n∧s 2= .ptr H.length 0 0 0∧s 5= .d (.v (.slice none 0 0))∧s 6=iA 0) 0 (by omega) (ak.refl _ _) ?_ ?_ ?_
  ·refine⟨rfl,rfl,?_⟩
   simp -implicitDefEqProofs only[↓reduceIte,go_sem,Nat.reduceLT,Nat.reduceEqDiff]
  ·intro k s H' hk;omega
  ·rintro s H' ⟨_,rfl,t1,t2,t5,t6⟩
   by_cases h0:0<(S.length:Int)
   case' neg=>simp -implicitDefEqProofs only[↓reduceIte,go_sem,ab,Nat.reduceAdd,Nat.reduceLT,Nat.reduceEqDiff,reduceCtorEq,t2,t6,dj,h0,t5]
   case' pos=>
    by_cases h1:0≤n
    case' neg=>simp -implicitDefEqProofs only[↓reduceIte,go_sem,ab,Nat.reduceAdd,Nat.reduceLT,Nat.reduceEqDiff,reduceCtorEq,t1,t2,t6,dj,h0,h1,t5]
    case' pos=>
     simp -implicitDefEqProofs only[↓reduceIte,go_sem,ab,Nat.reduceAdd,Nat.reduceLT,Nat.reduceEqDiff,t1,t2,t6,dj,h0,h1]
     refine ae.ok (hg _) ?_
     simp -implicitDefEqProofs only[↓reduceIte,go_sem,Nat.reduceLT,Nat.reduceEqDiff,show ¬n<(g:Int) by omega,t5]
   all_goals
    refine an.ret ?_
    simp -implicitDefEqProofs only[↓reduceIte,go_sem,Nat.reduceLT]
 rw[if_neg h]
 obtain⟨k,rfl⟩:=Int.eq_ofNat_of_zero_le (show 0≤n by omega)
 obtain⟨cs,key,rows,S⟩:=p
 simp only at*
 generalize bq S=g at*
 refine ag.ai (hint:=(fun _=>false)) Tryz.func54 (by kernel_rfl) rfl [4] (by kernel_rfl) (by decide) (by simp[Tryz.ntmps54]) ?_
 rw[Tryz.ntmps54]
 simp -implicitDefEqProofs only[↓reduceIte,go_sem,Nat.reduceAdd,Nat.reduceLT,Pj.av,Pj.ds]
 refine aA (fun j s H'=>H'=H++[.box 45 4 0 1 [.d (.list false (ints cs)),.d (.list false (ints key)),iA rows,.d (.list false (bg S))],.arr 102 8 j (((S.take j).map fun l=>cQ l k).map Zn.ds)]∧s 1=iA k∧s 2= .ptr H.length 0 0 0∧s 5= .sl (H.length+1) j 0 j∧s 6=iA j) S.length (by omega) (ak.eg _ _ 5 102 8 (by decide) (by simp -implicitDefEqProofs only[↓reduceIte,go_sem,Nat.reduceLT,Nat.reduceEqDiff]) _) ?_ ?_ ?_
 ·refine⟨?_,?_⟩
  ·simp -implicitDefEqProofs only[go_sem,List.take_zero]
  ·simp -implicitDefEqProofs only[↓reduceIte,go_sem,Nat.reduceLT,Nat.reduceEqDiff]
 ·rintro j s H' hj hw ⟨rfl,t1,t2,t5,t6⟩
  have hx:=m2 hj
  have hlj:=hs S[j] (List.getElem_mem hj)
  have e1:((S.take (j+1)).map fun l=>cQ l k).map Zn.ds=((S.take j).map fun l=>cQ l k).map Zn.ds++[(cQ S[j] k).ds]:=by rw[List.take_succ_eq_append_getElem hj,List.map_append,List.map_append];rfl
  have e2:(((S.take j).map fun l=>cQ l k).map Zn.ds).length=j:=by simp;omega
  have hk:k<S[j].length:=by omega
  have hz:(S[j].map Sg.ds)[k]?=some S[j][k].ds:=by simp[hk]
  have hze:cQ S[j] k=S[j][k].eZ:=by simp[cQ,hk]
  rw[e1,hze]
  generalize ((S.take j).map fun l=>cQ l k).map Zn.ds=Z at*
  generalize S[j][k]=sg at*
  generalize S[j]=l at*
  obtain⟨sk,sw,⟨zr,zn,mn,mx⟩,ns,bd⟩:=sg
  simp -implicitDefEqProofs only[↓reduceIte,go_sem,ab,Nat.reduceAdd,Nat.reduceLT,Nat.reduceEqDiff,t1,t2,t6,dj,hj,show(0:Int)≤(k:Int) by omega]
  refine ae.ok (hg _) ?_
  simp -implicitDefEqProofs only[↓reduceIte,go_sem,ab,Nat.reduceAdd,Nat.reduceLT,Nat.reduceLeDiff,Nat.reduceEqDiff,show(k:Int)<(g:Int) by omega,t1,t2,t5,t6,hx,hz,Sg.ds,iD,e2]
  refine⟨by omega,by omega,cl.same ⟨rfl,?_⟩⟩
  simp -implicitDefEqProofs only[↓reduceIte,go_sem,Nat.reduceLT,Nat.reduceEqDiff,t1,t2,hw]
 ·rintro s H' ⟨rfl,t1,t2,t5,t6⟩
  rw[List.take_length]at*
  simp -implicitDefEqProofs only[↓reduceIte,go_sem,ab,Nat.reduceAdd,Nat.reduceLT,Nat.reduceEqDiff,reduceCtorEq,t2,t5,t6,dj]
  refine an.ret ?_
  simp -implicitDefEqProofs only[↓reduceIte,go_sem,Nat.reduceLT,List.take_of_length_le (show((S.map fun l=>cQ l k).map Zn.ds).length≤S.length by simp)]
theorem vL(p:Pj)(hp:p.Ok)(hps:p.pU)(l:List Atom)(n1:Bool)(hl:l.length≤1000000000)(n:Int)(hn:iJ n)(H:aa):ag Tryz.prog 51 [p.av,.d (.list n1 (l.map Atom.enc)),iA n] H (.ok (bA (iS p (aL p.bl n) l))) H:=by
 have hg:=fun H=>nk p hp n hn H
 have hZ:(aL p.bl n).length≤1000000000:=by unfold aL;split;simp;simp;exact hp.len
 have hzs:∀z∈aL p.bl n,z.pU:=fun z hz=>hps.eZ hz
 generalize aL p.bl n=Z at*
 have hpl:=fun c H=>vC p hp.aC c H
 have hpc:=fun c=>sO c p.aC
 have hcl:=hp.aC
 unfold iS
 generalize hpr:(fun a:Atom=>decide (0≤cS a.dN p.aC∧cS a.dN p.aC<Z.length)&&gm (Z.getD (cS a.dN p.aC).toNat kz) a)=pr
 have hpa:∀a,pr a=(decide (0≤cS a.dN p.aC∧cS a.dN p.aC<Z.length)&&gm (Z.getD (cS a.dN p.aC).toNat kz) a):=fun a=>by rw[←hpr]
 clear hpr
 obtain⟨pb,hpb⟩:∃pb,pb=ay.box 45 4 0 1 [.d (.list false (ints p.aC)),.d (.list false (ints p.key)),iA p.rows,.d (.list false (bg p.bl))]:=⟨_,rfl⟩
 refine ag.ai (hint:=(fun _=>false)) Tryz.func51 (by kernel_rfl) rfl [6] (by kernel_rfl) (by decide) (by simp[Tryz.ntmps51]) ?_
 rw[Tryz.ntmps51]
 simp -implicitDefEqProofs only[↓reduceIte,go_sem,ab,Nat.reduceAdd,Nat.reduceLT,Nat.reduceEqDiff,Pj.av,Pj.ds]
 refine ae.ok (hg _) ?_
 simp -implicitDefEqProofs only[↓reduceIte,go_sem,Nat.reduceLT]
 rw[←hpb]
 refine aA (fun k s H'=>H'=H++[pb]∧(∀i (hi:i<k) (hl:i<l.length),pr l[i]=false)∧s 1= .d (.list n1 (l.map Atom.enc))∧s 3= .ptr H.length 0 0 0∧s 7= .d (.list false (Z.map Zn.ds))∧s 8=iA k) l.length (by omega) (ak.refl _ _) ?_ ?_ ?_
 ·refine⟨rfl,fun i hi=>by omega,?_⟩
  simp -implicitDefEqProofs only[↓reduceIte,go_sem,Nat.reduceLT,Nat.reduceEqDiff]
 ·rintro k s H' hk hw ⟨rfl,hp0,t1,t3,t7,t8⟩
  have hx:(l.map Atom.enc)[k]?=some l[k].enc:=by simp[hk]
  have hit:pr l[k]=true→l.any pr=true:=fun h=>zh hk h
  have hpp:pr l[k]=false→∀i (hi:i<k+1) (hl:i<l.length),pr l[i]=false:=fun h0 i hi hl'=>by
   rcases Nat.lt_or_ge i k with h|h
   ·exact hp0 i h hl'
   ·obtain rfl:i=k:=by omega
    exact h0
  have hpk:=hpa l[k]
  have hic:=hpc l[k].dN
  generalize l[k]=a at*
  have hpl:=hpl a.dN
  generalize cS a.dN p.aC=i at*
  simp -implicitDefEqProofs only[↓reduceIte,go_sem,Nat.reduceLT,Nat.reduceEqDiff,t1,t8,List.length_map,hk]
  refine aF K.mixed (by kernel_rfl) ?_
  simp -implicitDefEqProofs only[↓reduceIte,go_sem,ab,Nat.reduceAdd,Nat.reduceLT,Nat.reduceLeDiff,Nat.reduceEqDiff,t1,t3,t8,hx,Atom.enc,hpb]
  refine ae.ok (by exact hpl _) ?_
  rw[←hpb]
  simp -implicitDefEqProofs only[↓reduceIte,go_sem,Nat.reduceLT]
  refine aF K.mixed (by kernel_rfl) ?_
  by_cases h0:i<0
  case' pos=>
   rw[decide_eq_false (by omega),Bool.false_and]at hpk
   simp -implicitDefEqProofs only[↓reduceIte,go_sem,Nat.reduceLT,Nat.reduceEqDiff,reduceCtorEq,show ¬(0:Int)≤i by omega,t8]
  case' neg=>
   obtain⟨j,rfl⟩:=Int.eq_ofNat_of_zero_le (show 0≤i by omega)
   by_cases hj:j<Z.length
   case' neg=>
    rw[decide_eq_false (by omega),Bool.false_and]at hpk
    simp -implicitDefEqProofs only[↓reduceIte,go_sem,Nat.reduceLT,Nat.reduceEqDiff,reduceCtorEq,t7,hj,dV,t8]
   case' pos=>
    rw[decide_eq_true ⟨by omega,by omega⟩,Bool.true_and]at hpk
    have hz:(Z.map Zn.ds)[j]?=some Z[j].ds:=by simp[hj]
    have hzd:Z.getD j kz=Z[j]:=by simp[hj]
    have hno:=fun H=>lr Z[j] (hzs _ (List.getElem_mem hj)) a H
    simp only[Int.toNat_natCast]at hpk
    rw[hzd]at hpk
    generalize Z[j]=z at*
    simp -implicitDefEqProofs only[↓reduceIte,go_sem,Nat.reduceAdd,Nat.reduceLT,Nat.reduceEqDiff,t1,t7,t8,hj,hz,hx,Zn.ds,Atom.enc,iD,List.length_map]
    refine ae.ok (hno _) ?_
    cases hn0:gm z a
    case' true=>
     rw[hn0]at hpk
     simp -implicitDefEqProofs only[↓reduceIte,go_sem,Nat.reduceLT,Nat.reduceEqDiff]
     refine an.ret ?_
     simp -implicitDefEqProofs only[↓reduceIte,go_sem,Nat.reduceLT,hit hpk]
    case' false=>
     rw[hn0]at hpk
     simp -implicitDefEqProofs only[↓reduceIte,go_sem,Nat.reduceLT,Nat.reduceEqDiff,t8]
  all_goals
   refine cl.same ⟨rfl,hpp hpk,?_⟩
   simp -implicitDefEqProofs only[↓reduceIte,go_sem,Nat.reduceLT,Nat.reduceEqDiff,t1,t3,t7,hw]
 ·rintro s H' ⟨rfl,hp0,t1,t3,t7,t8⟩
  simp -implicitDefEqProofs only[↓reduceIte,go_sem,Nat.reduceLT,Nat.reduceEqDiff,t1,t8,List.length_map]
  refine an.ret ?_
  simp -implicitDefEqProofs only[↓reduceIte,go_sem,Nat.reduceLT,any_none fun i hi=>hp0 i hi hi]
theorem vv(l:List Atom)(o:List Int)(n1 n2:Bool)(H:aa)(hl:l.length≤1000000)(ho:o.length≤1000000):
  ag Tryz.prog 20 [.d (.list n1 (l.map Atom.enc)),.d (.list n2 (ints o))] H (.ok (.d (.list false ((dA l o).map Atom.enc)))) H:=by
 refine ag.ai (hint:=(fun _=>false)) Tryz.func20 (by kernel_rfl) rfl [4] (by kernel_rfl) (by decide) (by simp[Tryz.ntmps20]) ?_
 rw[Tryz.ntmps20]
 simp -implicitDefEqProofs only[go_sem]
 refine aA (fun k s H'=>∃ver,H'=H++[.arr 123 5 ver ((dA l (o.take k)).map Atom.enc)]∧s 0= .d (.list n1 (l.map Atom.enc))∧s 1= .d (.list n2 (ints o))∧s 5= .sl H.length ver 0 (dA l (o.take k)).length∧s 6=iA k) o.length (by omega) (ak.eg _ _ 5 123 5 (by decide) (by simp -implicitDefEqProofs only[↓reduceIte,go_sem,Nat.reduceLT,Nat.reduceEqDiff]) _) ?_ ?_ ?_
 ·exact⟨0,by simp[dA],by simp -implicitDefEqProofs only[↓reduceIte,go_sem,reduceCtorEq],by simp -implicitDefEqProofs only[↓reduceIte,go_sem,Nat.reduceEqDiff],by simp[dA],by simp -implicitDefEqProofs only[↓reduceIte,go_sem,Nat.reduceLT,Nat.reduceEqDiff]⟩
 ·rintro k s H' hk hw ⟨ver,rfl,h0,h1,h5,h6⟩
  have hle:=kr l (o.take k)
  have hk2:=List.length_take_le k o
  have hsn:=nJ l o k hk
  have hget:=bD o k hk
  generalize o[k]=x at hget hsn
  by_cases hx0:0≤x
  ·by_cases hxl:x<l.length
   ·obtain⟨y,hy⟩:∃y,l[x.toNat]?=some y:=⟨l[x.toNat]'(by omega),by simp[show x.toNat<l.length by omega]⟩
    simp -implicitDefEqProofs only[↓reduceIte,go_sem,Nat.reduceAdd,Nat.reduceLT,Nat.reduceLeDiff,Nat.reduceEqDiff,reduceCtorEq,h0,h1,h5,h6,hk,hget,hx0,hxl,ao,List.length_map,hy,Atom.enc]
    refine⟨by omega,by omega,cl.same ⟨ver+1,?_⟩⟩
    simp -implicitDefEqProofs only[↓reduceIte,go_sem,Nat.reduceLT,Nat.reduceEqDiff,reduceCtorEq,h0,h1,hsn,hx0,hy,hw,Option.toList_some,List.map_append,List.length_append,Atom.enc]
   ·have hn:l[x.toNat]?=none:=List.getElem?_eq_none (by omega)
    simp -implicitDefEqProofs only[↓reduceIte,go_sem,Nat.reduceLT,Nat.reduceEqDiff,reduceCtorEq,h0,h1,h6,hk,hget,hx0,hxl,ao,List.length_map]
    refine cl.same ⟨ver,?_⟩
    simp -implicitDefEqProofs only[↓reduceIte,go_sem,Nat.reduceLT,Nat.reduceEqDiff,reduceCtorEq,h0,h1,h5,hsn,hx0,hn,hw,Option.toList_none,List.append_nil]
  ·simp -implicitDefEqProofs only[↓reduceIte,go_sem,Nat.reduceLT,Nat.reduceEqDiff,reduceCtorEq,h1,h6,hk,hget,hx0,ao]
   refine cl.same ⟨ver,?_⟩
   simp -implicitDefEqProofs only[↓reduceIte,go_sem,Nat.reduceLT,Nat.reduceEqDiff,reduceCtorEq,h0,h1,h5,hsn,hx0,hw,List.append_nil]
 ·rintro s H' ⟨ver,rfl,h0,h1,h5,h6⟩
  simp -implicitDefEqProofs only[↓reduceIte,go_sem,Nat.reduceLT,Nat.reduceEqDiff,h1,h5,h6,ao]
  refine an.ret ?_
  simp -implicitDefEqProofs only[↓reduceIte,go_sem,Nat.reduceLT]
  simp[b8]
theorem jg(l:List Int)(nn:Bool)(hl:l.length≤1000000000)(x:Int)(H:aa):ag Tryz.prog 56 [.d (.list nn (ints l)),iA x] H (.ok (iA (cS x l))) H:=by
 refine ag.ai (hint:=(fun _=>false)) Tryz.func56 (by kernel_rfl) rfl [4] (by kernel_rfl) (by decide) (by simp[Tryz.ntmps56]) ?_
 rw[Tryz.ntmps56]
 simp -implicitDefEqProofs only[go_sem,Int.reduceNeg]
 refine aA (fun k s H'=>H'=H∧(∀i (hi:i<k) (hl:i<l.length),¬l[i]=x)∧s 0= .d (.list nn (ints l))∧s 1=iA x∧s 5=iA k) l.length (by omega) (ak.refl _ _) ?_ ?_ ?_
 ·refine⟨rfl,fun i hi=>by omega,?_⟩
  simp -implicitDefEqProofs only[↓reduceIte,go_sem,Nat.reduceLT,Nat.reduceEqDiff,reduceCtorEq]
 ·rintro k s H' hk hw ⟨rfl,hp,t0,t1,t5⟩
  have hx:=bD l k hk
  have hit:l[k]=x→cS x l=k:=fun e=>by rw[←e];exact pa hk fun i hi hl'=>by rw[e];exact hp i hi hl'
  have hpp:¬l[k]=x→∀i (hi:i<k+1) (hl:i<l.length),¬l[i]=x:=fun h0 i hi hl'=>by
   rcases Nat.lt_or_ge i k with h|h
   ·exact hp i h hl'
   ·obtain rfl:i=k:=by omega
    exact h0
  generalize l[k]=y at*
  by_cases hy:y=x
  ·simp -implicitDefEqProofs only[↓reduceIte,go_sem,Nat.reduceLT,Nat.reduceEqDiff,reduceCtorEq,t0,t1,t5,ao,hk,hx,hy]
   refine an.aI ?_
   simp -implicitDefEqProofs only[↓reduceIte,go_sem,Nat.reduceLT,hit hy]
  ·simp -implicitDefEqProofs only[↓reduceIte,go_sem,Nat.reduceLT,Nat.reduceEqDiff,reduceCtorEq,t0,t1,t5,ao,hk,hx,hy]
   refine cl.same ⟨rfl,hpp hy,?_⟩
   simp -implicitDefEqProofs only[↓reduceIte,go_sem,Nat.reduceLT,Nat.reduceEqDiff,reduceCtorEq,t0,t1,hw]
 ·rintro s H' ⟨rfl,hp,t0,t1,t5⟩
  simp -implicitDefEqProofs only[↓reduceIte,go_sem,Nat.reduceLT,Nat.reduceEqDiff,Int.reduceNeg,reduceCtorEq,t0,t5,ao]
  refine an.aI ?_
  simp -implicitDefEqProofs only[↓reduceIte,go_sem,Nat.reduceLT,Int.reduceNeg,m4 fun i hi=>hp i hi hi]
def jC(a:Int×Int):List Int:=if a.1=1 then[]else[a.2]
theorem BS(aC:List Int)(bF:List (Int×Int))(aE:List (Int×D×D×D)):qK aC bF aE=(aC++bF.flatMap jC++aE.map (·.1)).foldl tell []:=by
 have h1:∀(l:List (Int×Int)) (o:List Int),l.foldl fN o=(l.flatMap jC).foldl tell o:=by
  intro l
  induction l with
  |nil=>exact fun o=>rfl
  |cons a l ih=>
   intro o
   rw[List.foldl_cons,List.flatMap_cons,List.foldl_append,ih]
   unfold fN jC
   split<;>rfl
 have h2:∀(l:List (Int×D×D×D)) (o:List Int),l.foldl nz o=(l.map (·.1)).foldl tell o:=by
  intro l
  induction l with
  |nil=>exact fun o=>rfl
  |cons a l ih=>exact fun o=>ih _
 unfold qK
 rw[List.foldl_append,List.foldl_append,h1,h2]
theorem tU(x:Int)(l:List Int):(cS x l<0)=¬x∈l:=by unfold cS;split<;>simp[*]<;>omega
theorem lD(q:Qu)(hq:q.Ok)(H:aa):ag Tryz.prog 17 [q.av] H (.ok (.d (.list false (ints q.bY)))) H:=by
 have hnl:=q.jm hq
 have hcl:=hq.aC
 have hal:=hq.bF
 have hjl:=hq.aE
 unfold Qu.bY at hnl⊢
 rw[BS]at hnl⊢
 have hfl:∀k,((q.bF.take k).flatMap jC).length≤k:=fun k=>by
  have:∀l:List (Int×Int),(l.flatMap jC).length≤l.length:=by
   intro l
   induction l with
   |nil=>simp
   |cons a l ih=>
    have h1:(jC a).length≤1:=by unfold jC;split<;>simp
    rw[List.flatMap_cons,List.length_append,List.length_cons]
    omega
  exact Nat.le_trans (this _) (List.length_take_le _ _)
 obtain⟨q0,pred,aE,aC,q4,bF,q6,q7⟩:=q
 simp only at*
 obtain⟨qb,hqb⟩:∃qb,qb=ay.box 30 8 0 1 [.d q0,.d (.list false (pred.map Atom.enc)),.d (.list false (aE.map ig)),.d (.list false (ints aC)),.d q4,.d (.list false (bF.map gR)),.d q6,.d q7]:=⟨_,rfl⟩
 have hb:∀m,qb.below m=true:=by intro m;subst hqb;simp -implicitDefEqProofs only[go_sem]
 have hio:(∀c∈ints aC,c.length=1)=True:=mA aC
 refine ag.ai (hint:=(fun _=>false)) Tryz.func17 (by kernel_rfl) rfl [2] (by kernel_rfl) (by decide) (by simp[Tryz.ntmps17]) ?_
 rw[Tryz.ntmps17]
 simp -implicitDefEqProofs only[↓reduceIte,go_sem,ab,Nat.reduceAdd,Nat.reduceLT,Nat.reduceLeDiff,Nat.reduceEqDiff,Qu.av,Qu.ds,hio,ao]
 refine⟨by omega,by omega,?_⟩
 rw[←hqb]
 refine aA (fun k s H'=>∃ver,H'=H++[qb,.arr 3 1 ver (ints (aC++(bF.take k).flatMap jC))]∧s 1= .ptr H.length 0 0 0∧s 3= .sl (H.length+1) ver 0 (aC++(bF.take k).flatMap jC).length∧s 4=iA k) bF.length (by omega) (ak.refl _ _) ?_ ?_ ?_
 ·refine⟨1,?_⟩
  simp -implicitDefEqProofs only[↓reduceIte,go_sem,Nat.reduceLT,Nat.reduceEqDiff,List.take_zero,List.flatMap_nil,List.append_nil]
 ·rintro k s H' hk hw ⟨ver,rfl,t1,t3,t4⟩
  have hx:(bF.map gR)[k]?=some (gR bF[k]):=by simp[hk]
  have e1:(bF.take (k+1)).flatMap jC=(bF.take k).flatMap jC++jC bF[k]:=by rw[List.take_succ_eq_append_getElem hk,List.flatMap_append];simp
  have hl:=hfl k
  generalize bF[k]=a at*
  have hll:((aC++(bF.take k).flatMap jC)).length≤200:=by rw[List.length_append];omega
  rw[e1,←List.append_assoc]
  generalize hA:aC++(bF.take k).flatMap jC=A at*
  by_cases hop:a.1=1
  ·have hac:jC a=[]:=if_pos hop
   simp -implicitDefEqProofs only[↓reduceIte,go_sem,ab,Nat.reduceAdd,Nat.reduceLT,Nat.reduceLeDiff,Nat.reduceEqDiff,t1,t4,hqb,List.length_map,hk,hx,gR,hop]
   rw[←hqb]
   refine cl.same ⟨ver,?_⟩
   simp -implicitDefEqProofs only[↓reduceIte,go_sem,Nat.reduceLT,Nat.reduceEqDiff,t1,t3,hw,hac,List.append_nil]
  ·have hac:jC a=[a.2]:=if_neg hop
   simp -implicitDefEqProofs only[↓reduceIte,go_sem,ab,Nat.reduceAdd,Nat.reduceLT,Nat.reduceLeDiff,Nat.reduceEqDiff,t1,t3,t4,hqb,List.length_map,hk,hx,gR,hop,ao,c8]
   rw[←hqb]
   refine⟨by omega,by omega,cl.same ⟨ver+1,?_⟩⟩
   simp -implicitDefEqProofs only[↓reduceIte,go_sem,Nat.reduceLT,Nat.reduceEqDiff,t1,hw,hac,List.length_cons,List.length_nil]
 rintro s H' ⟨ver,rfl,t1,t3,t4⟩
 have hA2:=hfl bF.length
 rw[List.take_length]at t3 hA2⊢
 have hAl:(aC++bF.flatMap jC).length≤200:=by rw[List.length_append];omega
 generalize aC++bF.flatMap jC=A at*
 simp -implicitDefEqProofs only[↓reduceIte,go_sem,ab,Nat.reduceAdd,Nat.reduceLT,Nat.reduceLeDiff,Nat.reduceEqDiff,t1,t4,hqb,List.length_map]
 rw[←hqb]
 refine aA (fun k s H'=>∃ver,H'=H++[qb,.arr 3 1 ver (ints (A++(aE.map (·.1)).take k))]∧s 1= .ptr H.length 0 0 0∧s 3= .sl (H.length+1) ver 0 (A.length+k)∧s 5=iA k) aE.length (by omega) (ak.refl _ _) ?_ ?_ ?_
 ·refine⟨ver,?_⟩
  simp -implicitDefEqProofs only[↓reduceIte,go_sem,Nat.reduceLT,Nat.reduceEqDiff,List.take_zero,List.append_nil,t1,t3]
 ·rintro k s H' hk hw ⟨ver,rfl,t1,t3,t5⟩
  have hx:(aE.map ig)[k]?=some (ig aE[k]):=by simp[hk]
  have e1:(aE.map (·.1)).take (k+1)=(aE.map (·.1)).take k++[(aE[k]).1]:=by rw[List.take_succ_eq_append_getElem (by simpa using hk)];simp
  have hln:(A++(aE.map (·.1)).take k).length=A.length+k:=by simp;omega
  rw[e1,←List.append_assoc]
  generalize aE[k]=x at*
  generalize A++(aE.map (·.1)).take k=B at*
  simp -implicitDefEqProofs only[↓reduceIte,go_sem,ab,Nat.reduceAdd,Nat.reduceLT,Nat.reduceLeDiff,Nat.reduceEqDiff,t1,t3,t5,hqb,List.length_map,hk,hx,ig,ao,hln,c8]
  rw[←hqb]
  refine⟨by omega,by omega,cl.same ⟨ver+1,?_⟩⟩
  simp -implicitDefEqProofs only[↓reduceIte,go_sem,Nat.reduceLT,Nat.reduceEqDiff,t1,hw,Nat.add_assoc]
 rintro s H' ⟨ver,rfl,t1,t3,t5⟩
 rw[List.take_of_length_le (show(aE.map (·.1)).length≤aE.length by simp)]
 have hWl:A.length+aE.length=(A++aE.map (·.1)).length:=by simp
 rw[hWl]at t3
 generalize A++aE.map (·.1)=W at*
 have hft:∀k,((W.take k).foldl tell []).length≤k:=fun k=>by
  have:=dO tell iM (W.take k) []
  have h2:=List.length_take_le k W
  simp only[List.length_nil]at this
  omega
 simp -implicitDefEqProofs only[↓reduceIte,go_sem,ab,Nat.reduceAdd,Nat.reduceLT,Nat.reduceLeDiff,Nat.reduceEqDiff,t1,t5,hqb,List.length_map]
 rw[←hqb]
 refine aA (fun k s H'=>∃ver,H'=H++[qb,.arr 3 1 ver (ints ((W.take k).foldl tell []))]∧s 3= .d (.list false (ints W))∧s 6= .sl (H.length+1) ver 0 ((W.take k).foldl tell []).length∧s 7=iA k) W.length (by omega) ((ak.cut [qb] [.arr 3 1 ver (ints W)] 1 rfl _ (by simp -implicitDefEqProofs only[go_sem,hb])).trans (ak.eg _ _ 6 3 1 (by decide) (by simp -implicitDefEqProofs only[↓reduceIte,go_sem,Nat.reduceLT,Nat.reduceEqDiff]) _)) ?_ ?_ ?_
 ·refine⟨0,?_⟩
  simp -implicitDefEqProofs only[↓reduceIte,go_sem,Nat.reduceLT,Nat.reduceEqDiff,t3,ao,b8,jQ]
 ·rintro k s H' hk hw ⟨ver,rfl,t3,t6,t7⟩
  have hx:=bD W k hk
  have e1:=ji tell [] W k hk
  have hol:=hft k
  rw[e1]
  generalize (W.take k).foldl tell []=O at*
  generalize W[k]=x at*
  have hpl:=jg O false (by omega) x []
  simp -implicitDefEqProofs only[↓reduceIte,go_sem,Nat.reduceLT,Nat.reduceEqDiff,t3,t7,ao,hk,hx,t6]
  refine ae.K6 (.cons (.sl (H.length+1) 1 ver 0 O.length 3 (ints O) (by simp)) (.cons (.d _) .nil)) (by rw[List.drop_zero,List.take_of_length_le (by rw[ao];omega)];exact hpl) rfl ?_
  by_cases hin:x∈O
  ·have ht:tell O x=O:=if_pos hin
   simp -implicitDefEqProofs only[↓reduceIte,go_sem,Nat.reduceLT,Nat.reduceEqDiff,tU,hin,not_true_eq_false,t7]
   refine cl.same ⟨ver,?_⟩
   simp -implicitDefEqProofs only[↓reduceIte,go_sem,Nat.reduceLT,Nat.reduceEqDiff,t3,t6,hw,ht]
  ·have ht:tell O x=O++[x]:=if_neg hin
   simp -implicitDefEqProofs only[↓reduceIte,go_sem,Nat.reduceAdd,Nat.reduceLT,Nat.reduceLeDiff,Nat.reduceEqDiff,tU,hin,not_false_eq_true,t3,t6,t7,hx,ao,c8]
   refine⟨by omega,by omega,cl.same ⟨ver+1,?_⟩⟩
   simp -implicitDefEqProofs only[↓reduceIte,go_sem,Nat.reduceLT,Nat.reduceEqDiff,t3,hw,ht,List.length_append,List.length_cons,List.length_nil]
 ·rintro s H' ⟨ver,rfl,t3,t6,t7⟩
  rw[List.take_length]at t6⊢
  simp -implicitDefEqProofs only[↓reduceIte,go_sem,Nat.reduceLT,Nat.reduceEqDiff,t3,t6,t7,ao]
  refine an.ret ?_
  simp -implicitDefEqProofs only[↓reduceIte,go_sem,Nat.reduceLT,b8,ao]
theorem yH(l:List Int)(nn:Bool)(hl:l.length≤1000000000)(x:Int)(H:aa):ag Tryz.prog 68 [.d (.list nn (ints l)),iA x] H (.ok (bA (decide (x∈l)))) H:=by
 refine ag.ai (hint:=(fun _=>false)) Tryz.func68 (by kernel_rfl) rfl [4] (by kernel_rfl) (by decide) (by simp[Tryz.ntmps68]) ?_
 rw[Tryz.ntmps68]
 simp -implicitDefEqProofs only[go_sem]
 refine aA (fun k s H'=>H'=H∧(∀i (hi:i<k) (hl:i<l.length),¬l[i]=x)∧s 0= .d (.list nn (ints l))∧s 1=iA x∧s 5=iA k) l.length (by omega) (ak.refl _ _) ?_ ?_ ?_
 ·refine⟨rfl,fun i hi=>by omega,?_⟩
  simp -implicitDefEqProofs only[↓reduceIte,go_sem,Nat.reduceLT,Nat.reduceEqDiff,reduceCtorEq]
 ·rintro k s H' hk hw ⟨rfl,hp,t0,t1,t5⟩
  have hx:=bD l k hk
  have hit:l[k]=x→x∈l:=fun e=>e▸List.getElem_mem hk
  have hpp:¬l[k]=x→∀i (hi:i<k+1) (hl:i<l.length),¬l[i]=x:=fun h0 i hi hl'=>by
   rcases Nat.lt_or_ge i k with h|h
   ·exact hp i h hl'
   ·obtain rfl:i=k:=by omega
    exact h0
  generalize l[k]=y at*
  by_cases hy:y=x
  ·simp -implicitDefEqProofs only[↓reduceIte,go_sem,Nat.reduceLT,Nat.reduceEqDiff,reduceCtorEq,t0,t1,t5,ao,hk,hx,hy]
   refine an.aI ?_
   simp -implicitDefEqProofs only[↓reduceIte,go_sem,Nat.reduceLT,hit hy]
  ·simp -implicitDefEqProofs only[↓reduceIte,go_sem,Nat.reduceLT,Nat.reduceEqDiff,reduceCtorEq,t0,t1,t5,ao,hk,hx,hy]
   refine cl.same ⟨rfl,hpp hy,?_⟩
   simp -implicitDefEqProofs only[↓reduceIte,go_sem,Nat.reduceLT,Nat.reduceEqDiff,reduceCtorEq,t0,t1,hw]
 ·rintro s H' ⟨rfl,hp,t0,t1,t5⟩
  have hn:¬x∈l:=fun h=>by
   obtain⟨i,hi,e⟩:=List.mem_iff_getElem.1 h
   exact hp i hi hi e
  simp -implicitDefEqProofs only[↓reduceIte,go_sem,Nat.reduceLT,Nat.reduceEqDiff,reduceCtorEq,t0,t5,ao]
  refine an.aI ?_
  simp -implicitDefEqProofs only[↓reduceIte,go_sem,Nat.reduceLT,hn]
theorem me(p:Pj)(hp:p.aC.length≤1000000000)(q:Qu)(hq:q.Ok)(H:aa):ag Tryz.prog 31 [p.av,q.av] H (.ok (bA (dq p q))) H:=by
 have hn:=fun H=>lD q hq H
 have hnl:=q.jm hq
 have hpl:=hq.pred
 have hhas:=fun x H=>yH p.aC false hp x H
 unfold dq
 have hc1:∀c∈q.bY,¬c∈p.aC→(q.bY.any fun c=> !decide (c∈p.aC))=true:=fun c hc h=>List.any_eq_true.2 ⟨c,hc,by simp[h]⟩
 have hc2:∀a∈q.pred,¬a.dN∈p.aC→(q.pred.any fun a=> !decide (a.dN∈p.aC))=true:=fun a ha h=>List.any_eq_true.2 ⟨a,ha,by simp[h]⟩
 have hn1:(∀i (hi:i<q.bY.length),q.bY[i]∈p.aC)→(q.bY.any fun c=> !decide (c∈p.aC))=false:=fun h=>any_none fun i hi=>by simp[h i hi]
 have hn2:(∀i (hi:i<q.pred.length),(q.pred[i]).dN∈p.aC)→(q.pred.any fun a=> !decide (a.dN∈p.aC))=false:=fun h=>any_none fun i hi=>by simp[h i hi]
 generalize (q.bY.any fun c=> !decide (c∈p.aC))=b1 at*
 generalize (q.pred.any fun a=> !decide (a.dN∈p.aC))=b2 at*
 generalize q.bY=bY at*
 obtain⟨cs,key,prows,S⟩:=p
 obtain⟨q0,pred,aE,qcols,q4,bF,q6,q7⟩:=q
 simp only at*
 obtain⟨qb,hqb⟩:∃qb,qb=ay.box 30 8 0 1 [.d q0,.d (.list false (pred.map Atom.enc)),.d (.list false (aE.map ig)),.d (.list false (ints qcols)),.d q4,.d (.list false (bF.map gR)),.d q6,.d q7]:=⟨_,rfl⟩
 obtain⟨pb,hpb⟩:∃pb,pb=ay.box 45 4 0 1 [.d (.list false (ints cs)),.d (.list false (ints key)),iA prows,.d (.list false (bg S))]:=⟨_,rfl⟩
 refine ag.ai (hint:=(fun _=>false)) Tryz.func31 (by kernel_rfl) rfl [4] (by kernel_rfl) (by decide) (by simp[Tryz.ntmps31]) ?_
 rw[Tryz.ntmps31]
 simp -implicitDefEqProofs only[↓reduceIte,go_sem,ab,Nat.reduceAdd,Nat.reduceLT,Nat.reduceEqDiff,Pj.av,Pj.ds,Qu.av,Qu.ds]
 refine ae.ok (hn _) ?_
 simp -implicitDefEqProofs only[↓reduceIte,go_sem,Nat.reduceLT]
 rw[←hqb,←hpb]
 refine aA (fun k s H'=>H'=H++[pb,qb]∧(∀i (hi:i<k) (hl:i<bY.length),bY[i]∈cs)∧s 2= .ptr H.length 0 0 0∧s 3= .ptr (H.length+1) 0 0 0∧s 5= .d (.list false (ints bY))∧s 6=iA k) bY.length (by omega) (ak.refl _ _) ?_ ?_ ?_
 ·refine⟨rfl,fun i hi=>by omega,?_⟩
  simp -implicitDefEqProofs only[↓reduceIte,go_sem,Nat.reduceLT,Nat.reduceEqDiff]
 ·rintro k s H' hk hw ⟨rfl,hp0,t2,t3,t5,t6⟩
  have hx:=bD bY k hk
  have hpp:bY[k]∈cs→∀i (hi:i<k+1) (hl:i<bY.length),bY[i]∈cs:=fun h0 i hi hl'=>by
   rcases Nat.lt_or_ge i k with h|h
   ·exact hp0 i h hl'
   ·obtain rfl:i=k:=by omega
    exact h0
  have hck:=hc1 bY[k] (List.getElem_mem hk)
  generalize bY[k]=x at*
  simp -implicitDefEqProofs only[↓reduceIte,go_sem,Nat.reduceLT,Nat.reduceEqDiff,t5,t6,ao,hk]
  refine aF K.mixed (by kernel_rfl) ?_
  simp -implicitDefEqProofs only[↓reduceIte,go_sem,ab,Nat.reduceAdd,Nat.reduceLT,Nat.reduceLeDiff,Nat.reduceEqDiff,t2,t5,t6,hpb,hx]
  refine ae.ok (hhas x _) ?_
  by_cases hin:x∈cs
  ·simp -implicitDefEqProofs only[↓reduceIte,go_sem,Nat.reduceLT,Nat.reduceEqDiff,hin,t6]
   refine cl.same ⟨by rw[hpb],hpp hin,?_⟩
   simp -implicitDefEqProofs only[↓reduceIte,go_sem,Nat.reduceLT,Nat.reduceEqDiff,t2,t3,t5,hw]
  ·simp -implicitDefEqProofs only[↓reduceIte,go_sem,Nat.reduceLT,hin]
   refine an.ret ?_
   simp -implicitDefEqProofs only[↓reduceIte,go_sem,Nat.reduceLT]
   simp[hck hin]
 rintro s H' ⟨rfl,hp0,t2,t3,t5,t6⟩
 have hb1:=hn1 fun i hi=>hp0 i hi hi
 subst hb1
 simp -implicitDefEqProofs only[↓reduceIte,go_sem,Nat.reduceLT,Nat.reduceEqDiff,t5,t6,ao]
 refine aA (fun k s H'=>H'=H++[pb,qb]∧(∀i (hi:i<k) (hl:i<pred.length),(pred[i]).dN∈cs)∧s 2= .ptr H.length 0 0 0∧s 3= .ptr (H.length+1) 0 0 0∧s 7=iA k) pred.length (by omega) (ak.refl _ _) ?_ ?_ ?_
 ·refine⟨rfl,fun i hi=>by omega,?_⟩
  simp -implicitDefEqProofs only[↓reduceIte,go_sem,Nat.reduceLT,Nat.reduceEqDiff,t2,t3]
 ·rintro k s H' hk hw ⟨rfl,hp0,t2,t3,t7⟩
  have hx:(pred.map Atom.enc)[k]?=some pred[k].enc:=by simp[hk]
  have hpp:(pred[k]).dN∈cs→∀i (hi:i<k+1) (hl:i<pred.length),(pred[i]).dN∈cs:=fun h0 i hi hl'=>by
   rcases Nat.lt_or_ge i k with h|h
   ·exact hp0 i h hl'
   ·obtain rfl:i=k:=by omega
    exact h0
  have hck:=hc2 pred[k] (List.getElem_mem hk)
  generalize pred[k]=x at*
  simp -implicitDefEqProofs only[↓reduceIte,go_sem,ab,Nat.reduceAdd,Nat.reduceLT,Nat.reduceLeDiff,Nat.reduceEqDiff,t3,t7,hqb,List.length_map,hk]
  refine aF K.mixed (by kernel_rfl) ?_
  simp -implicitDefEqProofs only[↓reduceIte,go_sem,ab,Nat.reduceAdd,Nat.reduceLT,Nat.reduceLeDiff,Nat.reduceEqDiff,t2,t3,t7,hpb,hx,Atom.enc]
  refine ae.ok (hhas x.dN _) ?_
  by_cases hin:x.dN∈cs
  ·simp -implicitDefEqProofs only[↓reduceIte,go_sem,Nat.reduceLT,Nat.reduceEqDiff,hin,t7]
   refine cl.same ⟨by simp only[hpb,hqb],hpp hin,?_⟩
   simp -implicitDefEqProofs only[↓reduceIte,go_sem,Nat.reduceLT,Nat.reduceEqDiff,t2,t3,hw]
  ·simp -implicitDefEqProofs only[↓reduceIte,go_sem,Nat.reduceLT,hin]
   refine an.ret ?_
   simp -implicitDefEqProofs only[↓reduceIte,go_sem,Nat.reduceLT]
   simp[hck hin]
 ·rintro s H' ⟨rfl,hp0,t2,t3,t7⟩
  have hb2:=hn2 fun i hi=>hp0 i hi hi
  subst hb2
  simp -implicitDefEqProofs only[↓reduceIte,go_sem,ab,Nat.reduceAdd,Nat.reduceLT,Nat.reduceLeDiff,Nat.reduceEqDiff,t3,t7,hqb,List.length_map]
  refine an.ret ?_
  simp -implicitDefEqProofs only[↓reduceIte,go_sem,Nat.reduceLT]
theorem D8(x:Int)(l:List Int):(0≤cS x l)=(x∈l):=tW x l
theorem yG(p:Pj)(hp:p.aC.length≤1000000000)(q:Qu)(hq:q.Ok)(H:aa):ag Tryz.prog 104 [p.av,q.av] H (.ok (du (p.aC.filter (asked q)).length)) H:=by
 have hn:=fun H=>lD q hq H
 have hnl:=q.jm hq
 have hpl:=hq.pred
 have hask:∀c,asked q c=((q.pred.any fun a=>decide (a.dN=c))||decide (c∈q.bY)):=fun c=>rfl
 generalize asked q=ask at*
 generalize q.bY=bY at*
 obtain⟨cs,key,prows,S⟩:=p
 obtain⟨q0,pred,aE,qcols,q4,bF,q6,q7⟩:=q
 simp only at*
 refine ag.ai (hint:=(fun _=>false)) Tryz.func104 (by kernel_rfl) rfl [4] (by kernel_rfl) (by decide) (by simp[Tryz.ntmps104]) ?_
 rw[Tryz.ntmps104]
 simp -implicitDefEqProofs only[↓reduceIte,go_sem,ab,Nat.reduceAdd,Nat.reduceLT,Nat.reduceEqDiff,Pj.av,Pj.ds,Qu.av,Qu.ds]
 refine ae.ok (hn _) ?_
 simp -implicitDefEqProofs only[↓reduceIte,go_sem,Nat.reduceLT]
 obtain⟨qb,hqb⟩:∃qb,qb=ay.box 30 8 0 1 [.d q0,.d (.list false (pred.map Atom.enc)),.d (.list false (aE.map ig)),.d (.list false (ints qcols)),.d q4,.d (.list false (bF.map gR)),.d q6,.d q7]:=⟨_,rfl⟩
 obtain⟨pb,hpb⟩:∃pb,pb=ay.box 45 4 0 1 [.d (.list false (ints cs)),.d (.list false (ints key)),iA prows,.d (.list false (bg S))]:=⟨_,rfl⟩
 rw[←hqb,←hpb]
 refine aA (fun k s H'=>H'=H++[pb,qb]∧s 2= .ptr H.length 0 0 0∧s 3= .ptr (H.length+1) 0 0 0∧s 5= .d (.list false (ints bY))∧s 6=du ((cs.take k).filter ask).length∧s 7=iA k) cs.length (by omega) (ak.refl _ _) ?_ ?_ ?_
 ·refine⟨rfl,?_⟩
  simp -implicitDefEqProofs only[↓reduceIte,go_sem,Nat.reduceLT,Nat.reduceEqDiff,List.take_zero,List.filter_nil]
  rfl
 ·rintro k s H' hk hw ⟨rfl,t2,t3,t5,t6,t7⟩
  have hx:=bD cs k hk
  have e1:((cs.take (k+1)).filter ask).length=((cs.take k).filter ask).length+if ask cs[k]=true then 1 else 0:=by
   rw[List.take_succ_eq_append_getElem hk,List.filter_append,List.length_append]
   cases h:ask cs[k]<;>simp[h]
  have hle:((cs.take k).filter ask).length≤k:=Nat.le_trans (List.length_filter_le _ _) (List.length_take_le _ _)
  have hac:=hask cs[k]
  generalize ((cs.take k).filter ask).length=m at*
  generalize cs[k]=c at*
  simp -implicitDefEqProofs only[↓reduceIte,go_sem,ab,Nat.reduceAdd,Nat.reduceLT,Nat.reduceLeDiff,Nat.reduceEqDiff,t2,t5,t7,hpb,ao,hk,hx]
  refine ae.ok (jg bY false (by omega) c _) ?_
  simp -implicitDefEqProofs only[↓reduceIte,go_sem,Nat.reduceLT,D8]
  rw[←hpb]
  refine aA (fun j s H'=>H'=H++[pb,qb]∧s 2= .ptr H.length 0 0 0∧s 3= .ptr (H.length+1) 0 0 0∧s 5= .d (.list false (ints bY))∧s 6=du m∧s 7=iA k∧s 8=bA (decide (c∈bY)||(pred.take j).any fun a=>decide (a.dN=c))∧s 9=iA j) pred.length (by omega) (ak.refl _ _) ?_ ?_ ?_
  ·refine⟨rfl,?_⟩
   simp -implicitDefEqProofs only[↓reduceIte,go_sem,Nat.reduceLT,Nat.reduceEqDiff,t2,t3,t5,t6,t7,List.take_zero,List.any_nil,Bool.or_false]
  ·rintro j s H' hj hw2 ⟨rfl,t2,t3,t5,t6,t7,t8,t9⟩
   have hy:(pred.map Atom.enc)[j]?=some pred[j].enc:=by simp[hj]
   have e2:(decide (c∈bY)||(pred.take (j+1)).any fun a=>decide (a.dN=c))=((decide (c∈bY)||(pred.take j).any fun a=>decide (a.dN=c))||decide (pred[j].dN=c)):=by rw[List.take_succ_eq_append_getElem hj,List.any_append,Bool.or_assoc];simp
   generalize (decide (c∈bY)||(pred.take j).any fun a=>decide (a.dN=c))=b at*
   generalize pred[j]=y at*
   simp -implicitDefEqProofs only[↓reduceIte,go_sem,ab,Nat.reduceAdd,Nat.reduceLT,Nat.reduceLeDiff,Nat.reduceEqDiff,t3,t9,hqb,List.length_map,hj]
   refine aF K.mixed (by kernel_rfl) ?_
   cases b
   case' false=>simp -implicitDefEqProofs only[↓reduceIte,go_sem,ab,Nat.reduceAdd,Nat.reduceLT,Nat.reduceLeDiff,Nat.reduceEqDiff,reduceCtorEq,t2,t3,t7,t8,t9,hpb,hqb,hx,hy,Atom.enc]
   case' true=>simp -implicitDefEqProofs only[↓reduceIte,go_sem,Nat.reduceLT,Nat.reduceEqDiff,t8,t9,hqb]
   all_goals
    refine cl.same ⟨by first|rfl|rw[hqb,hpb]|rw[hqb],?_⟩
    simp -implicitDefEqProofs only[↓reduceIte,go_sem,Nat.reduceLT,Nat.reduceEqDiff,t2,t3,t5,t6,t7,hw2,e2,Bool.false_or,Bool.true_or]
  ·rintro s H' ⟨rfl,t2,t3,t5,t6,t7,t8,t9⟩
   rw[List.take_length,Bool.or_comm,←hac]at t8
   simp -implicitDefEqProofs only[↓reduceIte,go_sem,ab,Nat.reduceAdd,Nat.reduceLT,Nat.reduceLeDiff,Nat.reduceEqDiff,t3,t9,hqb,List.length_map]
   rw[←hqb]
   cases ha:ask c
   case' true=>
    rw[ha,if_pos rfl]at e1
    simp -implicitDefEqProofs only[↓reduceIte,go_sem,Nat.reduceLT,Nat.reduceEqDiff,t8,ha,t6,t7]
   case' false=>
    rw[ha,if_neg (by simp)]at e1
    simp -implicitDefEqProofs only[↓reduceIte,go_sem,Nat.reduceLT,Nat.reduceEqDiff,t8,ha,t7]
   all_goals
    refine cl.same ⟨rfl,?_⟩
    rw[e1]
    simp -implicitDefEqProofs only[↓reduceIte,go_sem,Nat.reduceLT,Nat.reduceEqDiff,t2,t3,t5,t6,hw]
   rw[bz _ (by omega) (by omega)]
   rfl
 ·rintro s H' ⟨rfl,t2,t3,t5,t6,t7⟩
  rw[List.take_length]at t6
  simp -implicitDefEqProofs only[↓reduceIte,go_sem,ab,Nat.reduceAdd,Nat.reduceLT,Nat.reduceLeDiff,Nat.reduceEqDiff,t2,t6,t7,hpb,ao]
  refine an.ret ?_
  simp -implicitDefEqProofs only[↓reduceIte,go_sem,Nat.reduceLT]
theorem lT(a b:Nat):ct a b=min (a+b) 18446744073709551615:=by unfold ct;split<;>omega
theorem pL(a b c:Nat):ct (ct a b) c=ct a (ct b c):=by simp only[lT];omega
theorem AB(a:Nat)(h:a<18446744073709551616):ct a 0=a:=by rw[lT];omega
theorem AG(a n:Nat):eL a (n+1)=ct (eL a n) a:=by
 have h:a* (n+1)=a* n+a:=Nat.mul_succ a n
 unfold eL ct
 rw[h]
 split<;>split<;>first|omega|(split<;>omega)
def oB(p:Pj)(q:Qu)(pl:Pl)(l:List Atom)(Z:List Zn)(j:Nat):Nat:=
 ct (if pl.late then ct (kM p Z l (Z.getD 0 kz).rows).1 (ct pl.rep.toNat (eL (kM p Z l (Z.getD 0 kz).rows).2 q.bY.length))else fy p q (Z.getD 0 kz).rows) (eL (Z.getD 0 kz).rows j)
theorem vG(p:Pj)(q:Qu)(pl:Pl)(sum k:Nat)(hs:sum<18446744073709551616):fi p q pl sum k=if iS p (aL p.bl k) (bS q pl)then sum else ct sum (oB p q pl (bS q pl) (aL p.bl k) (if pl.range then 0 else q.aE.length)):=by
 unfold fi oB
 split
 ·rfl
 ·simp only
  have h0:∀x,eL x 0=0:=fun x=>rfl
  have e1:(if pl.late then ct (ct sum pl.rep.toNat) (l9 p q (bS q pl) (aL p.bl k) ((aL p.bl k).getD 0 kz).rows)else ct sum (fy p q ((aL p.bl k).getD 0 kz).rows))=ct sum (if pl.late then ct (kM p (aL p.bl k) (bS q pl) ((aL p.bl k).getD 0 kz).rows).1 (ct pl.rep.toNat (eL (kM p (aL p.bl k) (bS q pl) ((aL p.bl k).getD 0 kz).rows).2 q.bY.length))else fy p q ((aL p.bl k).getD 0 kz).rows):=by
   split
   ·unfold l9;simp only[lT];omega
   ·rfl
  rw[e1]
  generalize (if pl.late then ct (kM p (aL p.bl k) (bS q pl) ((aL p.bl k).getD 0 kz).rows).1 (ct pl.rep.toNat (eL (kM p (aL p.bl k) (bS q pl) ((aL p.bl k).getD 0 kz).rows).2 q.bY.length))else fy p q ((aL p.bl k).getD 0 kz).rows)=e
  split
  ·rw[h0];simp only[lT];omega
  ·rw[pL]
theorem rW(p:Pj)(hp:p.aC.length≤1000000000)(q:Qu)(hq:q.Ok)(pl:Pl)(hrep:iJ pl.rep)(l:List Atom)(hl:l.length≤1000000000)(Z:List Zn)(hZ:∀z∈Z,z.rows≤1000000000)(hZs:∀z∈Z,z.pU)(hZl:Z.length≤1000000000)(hZ0:0<Z.length)(H:aa):
  ag Tryz.prog 53 [p.av,q.av,pl.av,.d (.list false (l.map Atom.enc)),.d (.list false (Z.map Zn.ds))] H (.ok (du (oB p q pl l Z (if pl.range then 0 else q.aE.length)))) H:=by
 have hn:=fun H=>lD q hq H
 have hnl:=q.jm hq
 have hus:=fun H=>yG p hp q hq H
 have hz0:(Z.map Zn.ds)[0]?=some Z[0].ds:=by simp[hZ0]
 have hzd:Z.getD 0 kz=Z[0]:=by simp[hZ0]
 have hr9:=hZ Z[0] (List.getElem_mem hZ0)
 have hjl:=hq.aE
 unfold oB fy
 rw[hzd]
 generalize Z[0]=z0 at*
 have hrl:z0.rows<18446744073709551616:=by omega
 have hlt:=fun k=>pV p Z z0.rows hrl (l.take k) (0,z0.rows) (by omega) hrl
 have hstep:∀x a,eo p Z x a=if 0≤cS a.dN p.aC∧cS a.dN p.aC<Z.length then(ct x.1 x.2,min x.2 (jG (Z.getD (cS a.dN p.aC).toNat kz) a))else x:=fun x a=>rfl
 unfold kM
 generalize eo p Z=f at*
 have hfc:(p.aC.filter (asked q)).length≤p.aC.length:=List.length_filter_le _ _
 generalize (p.aC.filter (asked q)).length=us at*
 generalize q.bY=bY at*
 obtain⟨cs,key,prows,S⟩:=p
 obtain⟨proj,late,order,rep,range⟩:=pl
 simp only at*
 obtain⟨qb,hqb⟩:∃qb,qb=ay.box 30 8 0 1 [.d q.table,.d (.list false (q.pred.map Atom.enc)),.d (.list false (q.aE.map ig)),.d (.list false (ints q.aC)),.d q.group,.d (.list false (q.bF.map gR)),.d q.order,.d q.ny]:=⟨_,rfl⟩
 obtain⟨pb,hpb⟩:∃pb,pb=ay.box 45 4 0 1 [.d (.list false (ints cs)),.d (.list false (ints key)),iA prows,.d (.list false (bg S))]:=⟨_,rfl⟩
 obtain⟨lb,hlb⟩:∃lb,lb=ay.box 32 5 0 1 [iA proj,bA late,.d (.list false (ints order)),iA rep,bA range]:=⟨_,rfl⟩
 have hw0:IntKind.u64.wrap (max (z0.rows:Int) 0)=(z0.rows:Int):=by rw[bz _ (by omega) (by omega)];omega
 refine ag.ai (hint:=(fun _=>false)) Tryz.func53 (by kernel_rfl) rfl [10] (by kernel_rfl) (by decide) (by simp[Tryz.ntmps53]) ?_
 rw[Tryz.ntmps53]
 simp -implicitDefEqProofs only[↓reduceIte,go_sem,ab,Nat.reduceAdd,Nat.reduceLT,Nat.reduceLeDiff,Nat.reduceEqDiff,Int.reduceLE,Int.reduceToNat,Pj.av,Pj.ds,Qu.av,Qu.ds,Pl.av,Pl.ds,iD,hz0,Zn.ds,hw0]
 rw[←hqb,←hpb,←hlb]
 refine eK (fun s H'=>H'=H++[pb,qb,lb]∧s 3= .d (.list false (l.map Atom.enc))∧s 4= .d (.list false (Z.map Zn.ds))∧s 5= .ptr H.length 0 0 0∧s 6= .ptr (H.length+1) 0 0 0∧s 7= .ptr (H.length+2) 0 0 0∧s 11=du z0.rows∧s 12=du (if late=true then 0 else eL z0.rows us)) rfl ?_ ?_
 ·cases late
  ·simp -implicitDefEqProofs only[↓reduceIte,go_sem,ab,Nat.reduceAdd,Nat.reduceLT,Nat.reduceEqDiff,hpb,hqb]
   refine ae.ok (hus _) ?_
   simp -implicitDefEqProofs only[↓reduceIte,go_sem,Nat.reduceLT,Nat.reduceEqDiff]
   refine ae.ok (qW _ _ hrl (by omega) _) ?_
   simp -implicitDefEqProofs only[↓reduceIte,go_sem,Nat.reduceLT,Nat.reduceEqDiff,hpb,hqb,Bool.false_eq_true]
  ·simp -implicitDefEqProofs only[↓reduceIte,go_sem,Nat.reduceLT,Nat.reduceEqDiff]
   rfl
 rintro s H' ⟨rfl,t3,t4,t5,t6,t7,t11,t12⟩
 simp -implicitDefEqProofs only[↓reduceIte,go_sem,Nat.reduceLT,t11]
 refine gp (fun s H'=>H'=H++[pb,qb,lb]∧s 6= .ptr (H.length+1) 0 0 0∧s 7= .ptr (H.length+2) 0 0 0∧s 11=du z0.rows∧s 12=du (if late=true then(l.foldl f (0,z0.rows)).1 else eL z0.rows us)∧s 13=du (if late=true then(l.foldl f (0,z0.rows)).2 else z0.rows)) rfl ?_ ?_
 ·cases late
  ·refine aA (fun k s H'=>k=0∧H'=H++[pb,qb,lb]∧s 3= .d (.list false (l.map Atom.enc))∧s 6= .ptr (H.length+1) 0 0 0∧s 7= .ptr (H.length+2) 0 0 0∧s 11=du z0.rows∧s 12=du (eL z0.rows us)∧s 13=du z0.rows∧s 14=iA 0) 0 (by omega) (ak.refl _ _) ?_ ?_ ?_
   ·refine⟨rfl,rfl,?_⟩
    simp -implicitDefEqProofs only[↓reduceIte,go_sem,Nat.reduceLT,Nat.reduceEqDiff,t3,t6,t7,t11,t12,Bool.false_eq_true]
   ·intro k s H' hk;omega
   ·rintro s H' ⟨_,rfl,t3,t6,t7,t11,t12,t13,t14⟩
    by_cases h0:0<(l.length:Int)
    all_goals simp -implicitDefEqProofs only[↓reduceIte,go_sem,ab,Nat.reduceAdd,Nat.reduceLT,Nat.reduceLeDiff,Nat.reduceEqDiff,t3,t7,t14,hlb,List.length_map,h0,t6,t11,t12,t13,Bool.false_eq_true]
  refine aA (fun k s H'=>H'=H++[pb,qb,lb]∧s 3= .d (.list false (l.map Atom.enc))∧s 4= .d (.list false (Z.map Zn.ds))∧s 5= .ptr H.length 0 0 0∧s 6= .ptr (H.length+1) 0 0 0∧s 7= .ptr (H.length+2) 0 0 0∧s 11=du z0.rows∧s 12=du ((l.take k).foldl f (0,z0.rows)).1∧s 13=du ((l.take k).foldl f (0,z0.rows)).2∧s 14=iA k) l.length (by omega) (ak.refl _ _) ?_ ?_ ?_
  ·refine⟨rfl,?_⟩
   simp -implicitDefEqProofs only[↓reduceIte,go_sem,Nat.reduceLT,Nat.reduceEqDiff,t3,t4,t5,t6,t7,t11,t12,List.take_zero,List.foldl_nil]
  ·rintro k s H' hk hw ⟨rfl,t3,t4,t5,t6,t7,t11,t12,t13,t14⟩
   have hx:(l.map Atom.enc)[k]?=some l[k].enc:=by simp[hk]
   have e1:(l.take (k+1)).foldl f (0,z0.rows)=f ((l.take k).foldl f (0,z0.rows)) l[k]:=by rw[List.take_succ_eq_append_getElem hk,List.foldl_append];rfl
   obtain⟨hl1,hl2⟩:=hlt k
   rw[e1,hstep]
   generalize (l.take k).foldl f (0,z0.rows)=x at*
   obtain⟨sum,left⟩:=x
   generalize l[k]=a at*
   simp only at hl1 hl2 t12 t13⊢
   have hil:=sO a.dN cs
   have hid:=fun H=>jg cs false hp a.dN H
   generalize cS a.dN cs=i at*
   simp -implicitDefEqProofs only[↓reduceIte,go_sem,ab,Nat.reduceAdd,Nat.reduceLT,Nat.reduceLeDiff,Nat.reduceEqDiff,t3,t7,t14,hlb,List.length_map,hk]
   refine aF K.mixed (by kernel_rfl) ?_
   simp -implicitDefEqProofs only[↓reduceIte,go_sem,ab,Nat.reduceAdd,Nat.reduceLT,Nat.reduceLeDiff,Nat.reduceEqDiff,t3,t5,t14,hpb,hx,Atom.enc]
   refine ae.ok (hid _) ?_
   by_cases h0:i<0
   case' pos=>
    rw[if_neg (by omega)]
    simp -implicitDefEqProofs only[↓reduceIte,go_sem,Nat.reduceLT,Nat.reduceEqDiff,h0,t14]
   case' neg=>
    obtain⟨j,rfl⟩:=Int.eq_ofNat_of_zero_le (show 0≤i by omega)
    by_cases hj:Z.length≤j
    case' pos=>
     rw[if_neg (by omega)]
     simp -implicitDefEqProofs only[↓reduceIte,go_sem,Nat.reduceLT,Nat.reduceEqDiff,reduceCtorEq,h0,t4,dV,hj,t14]
    case' neg=>
     have hjl:j<Z.length:=by omega
     rw[if_pos ⟨by omega,by omega⟩]
     have hz:(Z.map Zn.ds)[j]?=some Z[j].ds:=by simp[hjl]
     have hzd:Z.getD j kz=Z[j]:=by simp[hjl]
     have hro:=fun H=>xh Z[j] (hZs _ (List.getElem_mem hjl)) a (hZ _ (List.getElem_mem hjl)) H
     have hzr:=hZ _ (List.getElem_mem hjl)
     have hrl:=uD Z[j] a
     simp only[Int.toNat_natCast]
     rw[hzd]
     generalize jG Z[j] a=rz at*
     generalize Z[j]=z at*
     simp -implicitDefEqProofs only[↓reduceIte,go_sem,Nat.reduceLT,Nat.reduceEqDiff,reduceCtorEq,h0,t4,dV,hj,t12,t13]
     refine ae.ok (iz sum left hl1 hl2 _) ?_
     simp -implicitDefEqProofs only[↓reduceIte,go_sem,Nat.reduceLT]
     refine aF K.mixed (by kernel_rfl) ?_
     simp -implicitDefEqProofs only[↓reduceIte,go_sem,Nat.reduceAdd,Nat.reduceLT,Nat.reduceEqDiff,t3,t4,t13,t14,hz,hx,Atom.enc,Zn.ds,iD]
     refine ae.ok (hro _) ?_
     have hwm:IntKind.u64.wrap (max (rz:Int) 0)=(rz:Int):=by rw[bz _ (by omega) (by omega)];omega
     have hmn:min (left:Int) (rz:Int)=((min left rz:Nat):Int):=by omega
     simp -implicitDefEqProofs only[↓reduceIte,go_sem,Nat.reduceLT,Nat.reduceEqDiff,hwm,hmn,t14]
   all_goals
    refine cl.same ⟨by first|rfl|rw[hpb,hlb],?_⟩
    simp -implicitDefEqProofs only[↓reduceIte,go_sem,Nat.reduceLT,Nat.reduceEqDiff,t3,t4,t5,t6,t7,t11,t12,t13,hw]
  ·rintro s H' ⟨rfl,t3,t4,t5,t6,t7,t11,t12,t13,t14⟩
   rw[List.take_length]at t12 t13
   simp -implicitDefEqProofs only[↓reduceIte,go_sem,Nat.reduceLT,Nat.reduceEqDiff,reduceCtorEq,t3,t14,List.length_map,t6,t7,t11,t12,t13]
 clear t3 t4 t5 t6 t7 t11 t12
 rintro s H' ⟨rfl,t6,t7,t11,t12,t13⟩
 have hlt:=hlt l.length
 rw[List.take_length]at hlt
 generalize l.foldl f (0,z0.rows)=x at*
 obtain⟨sum,left⟩:=x
 simp only at hlt t12 t13⊢
 simp -implicitDefEqProofs only[↓reduceIte,go_sem,ab,Nat.reduceAdd,Nat.reduceLT,Nat.reduceLeDiff,t7,hlb]
 rw[←hlb]
 generalize hE:(if late=true then ct sum (ct rep.toNat (eL left bY.length))else eL z0.rows us)=E at*
 have hEl:E<18446744073709551616:=by rw[←hE];split;exact eS _ _;exact mD _ _
 refine eK (fun s H'=>H'=H++[pb,qb,lb]∧s 6= .ptr (H.length+1) 0 0 0∧s 7= .ptr (H.length+2) 0 0 0∧s 11=du z0.rows∧s 12=du E) rfl ?_ ?_
 ·cases late
  ·rw[if_neg (by simp)]at hE t12
   simp -implicitDefEqProofs only[↓reduceIte,go_sem,Nat.reduceEqDiff,t6,t7,t11,t12,hE]
  ·have hrw:IntKind.u64.wrap (max rep 0)=(rep.toNat:Int):=by rw[bz _ (by omega) (by have:=hrep.2;omega)];omega
   have hwn:IntKind.u64.wrap (bY.length:Int)=(bY.length:Int):=bz _ (by omega) (by omega)
   rw[if_pos rfl]at hE t12 t13
   simp -implicitDefEqProofs only[go_sem]
   refine aF K.mixed (by kernel_rfl) ?_
   simp -implicitDefEqProofs only[↓reduceIte,go_sem,ab,Nat.reduceAdd,Nat.reduceLT,Nat.reduceLeDiff,Nat.reduceEqDiff,t6,t7,t12,t13,hlb,hqb,hrw]
   refine ae.ok (hn _) ?_
   simp -implicitDefEqProofs only[↓reduceIte,go_sem,Nat.reduceLT,Nat.reduceEqDiff,ao,hwn]
   refine ae.ok (qW _ _ hlt.2 (by omega) _) ?_
   simp -implicitDefEqProofs only[↓reduceIte,go_sem,Nat.reduceLT,Nat.reduceEqDiff]
   refine ae.ok (iz _ _ (by have:=hrep.2;omega) (mD _ _) _) ?_
   simp -implicitDefEqProofs only[↓reduceIte,go_sem,Nat.reduceLT,Nat.reduceEqDiff]
   refine ae.ok (iz _ _ hlt.1 (eS _ _) _) ?_
   simp -implicitDefEqProofs only[↓reduceIte,go_sem,Nat.reduceLT,Nat.reduceEqDiff,hE,t6,t7,t11]
   rw[hqb,hlb]
 clear t6 t7 t11 t12 t13
 rintro s H' ⟨rfl,t6,t7,t11,t12⟩
 simp -implicitDefEqProofs only[go_sem]
 refine aA (fun k s H'=>H'=H++[pb,qb,lb]∧s 6= .ptr (H.length+1) 0 0 0∧s 7= .ptr (H.length+2) 0 0 0∧s 11=du z0.rows∧s 12=du (ct E (eL z0.rows k))∧s 16=iA k) (if range=true then 0 else q.aE.length) (by split<;>omega) (ak.refl _ _) ?_ ?_ ?_
 ·refine⟨rfl,?_⟩
  simp -implicitDefEqProofs only[↓reduceIte,go_sem,Nat.reduceLT,Nat.reduceEqDiff,t6,t7,t11,t12,show ct E (eL z0.rows 0)=E from AB E hEl]
 ·rintro k s H' hk hw ⟨rfl,t6,t7,t11,t12,t16⟩
  have hr:range=false:=by cases range;rfl;simp at hk
  subst hr
  have hk2:k<q.aE.length:=by simpa using hk
  simp -implicitDefEqProofs only[↓reduceIte,go_sem,ab,Nat.reduceAdd,Nat.reduceLT,Nat.reduceLeDiff,Nat.reduceEqDiff,t6,t7,t16,hqb,hlb,List.length_map,hk2,t11,t12]
  refine ae.ok (iz _ _ (eS _ _) hrl _) ?_
  simp -implicitDefEqProofs only[↓reduceIte,go_sem,Nat.reduceLT,Nat.reduceEqDiff,t16]
  refine cl.same ⟨by rw[hqb,hlb],?_⟩
  simp -implicitDefEqProofs only[↓reduceIte,go_sem,Nat.reduceLT,Nat.reduceEqDiff,t6,t7,t11,hw,AG,pL]
 ·rintro s H' ⟨rfl,t6,t7,t11,t12,t16⟩
  cases range
  case' false=>
   rw[if_neg (by simp)]at t12 t16⊢
   simp -implicitDefEqProofs only[↓reduceIte,go_sem,ab,Nat.reduceAdd,Nat.reduceLT,Nat.reduceLeDiff,Nat.reduceEqDiff,reduceCtorEq,t6,t16,hqb,List.length_map,t12]
  case' true=>
   rw[if_pos rfl]at t12 t16⊢
   by_cases h0:0<(q.aE.length:Int)
   all_goals simp -implicitDefEqProofs only[↓reduceIte,go_sem,ab,Nat.reduceAdd,Nat.reduceLT,Nat.reduceLeDiff,Nat.reduceEqDiff,reduceCtorEq,t6,t7,t16,hqb,hlb,List.length_map,t12,h0]
  all_goals
   refine an.ret ?_
   simp -implicitDefEqProofs only[↓reduceIte,go_sem,Nat.reduceLT]
theorem Af(p:Pj)(q:Qu)(pl:Pl)(l:List Atom)(Z:List Zn)(j:Nat):oB p q pl l Z j<18446744073709551616:=eS _ _
theorem CC(p:Pj)(hp:p.Ok)(hps:p.pU)(q:Qu)(hq:q.Ok)(pl:Pl)(hpl:pl.order.length≤1000)(hrep:iJ pl.rep)(H:aa):ag Tryz.prog 13 [p.av,q.av,pl.av] H (.ok (du (eN p q pl))) H:=by
 unfold eN
 have hlt:=kn p q pl
 have hst:=fun k=>(jR p q pl k).trans (vG p q pl _ k (hlt k))
 have h0:gS p q pl 0=0:=rfl
 generalize gS p q pl=F at*
 have hal:(bS q pl).length≤1000:=by
  unfold bS
  have:=hq.pred
  split
  ·exact Nat.le_trans (kr _ _) hpl
  ·omega
 have hgr:=fun(k:Nat) (hk:k<bq p.bl)=>oW (S:=p.bl) (k:=k) hk
 have hgd:=fun k (hk:iJ k) H=>nk p hp k hk H
 have hpr:=fun k (hk:iJ k) H=>vL p hp hps (bS q pl) false (by omega) k hk H
 have hgc:=fun(k:Nat) (hk:k<bq p.bl) H=>rW p hp.aC q hq pl hrep (bS q pl) (by omega) (aL p.bl k) (fun z hz=>hp.fh hz) (fun z hz=>hps.eZ hz) (by rw[(hgr k hk).1];simp;exact hp.len) (by rw[(hgr k hk).1];simpa using(hgr k hk).2) H
 have hor:=fun H=>vv q.pred pl.order false false H (by have:=hq.pred;omega) (by omega)
 have hgs:=fun H=>lI p H
 have hA:bS q pl=if pl.late then dA q.pred pl.order else q.pred:=rfl
 have hgm:=hp.many
 generalize bS q pl=A at*
 generalize (if pl.range=true then 0 else q.aE.length)=jn at*
 have hgl:=fun k=>Af p q pl A (aL p.bl k) jn
 obtain⟨pb,hpb⟩:∃pb,pb=ay.box 45 4 0 1 [.d (.list false (ints p.aC)),.d (.list false (ints p.key)),iA p.rows,.d (.list false (bg p.bl))]:=⟨_,rfl⟩
 obtain⟨qb,hqb⟩:∃qb,qb=ay.box 30 8 0 1 [.d q.table,.d (.list false (q.pred.map Atom.enc)),.d (.list false (q.aE.map ig)),.d (.list false (ints q.aC)),.d q.group,.d (.list false (q.bF.map gR)),.d q.order,.d q.ny]:=⟨_,rfl⟩
 obtain⟨lb,hlb⟩:∃lb,lb=ay.box 32 5 0 1 [iA pl.proj,bA pl.late,.d (.list false (ints pl.order)),iA pl.rep,bA pl.range]:=⟨_,rfl⟩
 refine ag.ai (hint:=(fun _=>false)) Tryz.func13 (by kernel_rfl) rfl [6] (by kernel_rfl) (by decide) (by simp[Tryz.ntmps13]) ?_
 rw[Tryz.ntmps13]
 simp -implicitDefEqProofs only[↓reduceIte,go_sem,ab,Nat.reduceAdd,Nat.reduceLT,Nat.reduceLeDiff,Nat.reduceEqDiff,Pj.av,Pj.ds,Qu.av,Qu.ds,Pl.av,Pl.ds,iD]
 rw[←hqb,←hpb,←hlb]
 refine eK (fun s H'=>H'=H++[pb,qb,lb]∧s 3= .ptr H.length 0 0 0∧s 4= .ptr (H.length+1) 0 0 0∧s 5= .ptr (H.length+2) 0 0 0∧s 7= .d (.list false (A.map Atom.enc))) rfl ?_ ?_
 ·cases hl:pl.late
  case' false=>simp -implicitDefEqProofs only[↓reduceIte,go_sem,Nat.reduceLT,Nat.reduceEqDiff,hA,hl,Bool.false_eq_true]
  case' true=>
   simp -implicitDefEqProofs only[↓reduceIte,go_sem,ab,Nat.reduceAdd,Nat.reduceLT,Nat.reduceLeDiff,Nat.reduceEqDiff,hqb,hlb]
   refine ae.ok (hor _) ?_
   simp -implicitDefEqProofs only[↓reduceIte,go_sem,Nat.reduceLT,Nat.reduceEqDiff,hA,hl]
   rw[hqb,hlb,hl]
 rintro s H' ⟨rfl,t3,t4,t5,t7⟩
 simp -implicitDefEqProofs only[go_sem]
 refine aA (fun k s H'=>H'=H++[pb,qb,lb]∧s 3= .ptr H.length 0 0 0∧s 4= .ptr (H.length+1) 0 0 0∧s 5= .ptr (H.length+2) 0 0 0∧s 7= .d (.list false (A.map Atom.enc))∧s 8=du (F k)∧s 9=iA k) (bq p.bl) (by omega) (ak.refl _ _) ?_ ?_ ?_
 ·refine⟨rfl,?_⟩
  simp -implicitDefEqProofs only[↓reduceIte,go_sem,Nat.reduceLT,Nat.reduceEqDiff,t3,t4,t5,t7,h0]
  rfl
 ·rintro k s H' hk hw ⟨rfl,t3,t4,t5,t7,t8,t9⟩
  have hki:iJ k:=⟨by omega,by omega⟩
  have hsk:=hst k
  have hpk:=hpr k hki
  have hgk:=hgd k hki
  have hgck:=hgc k hk
  have hglk:=hgl k
  have hFk:=hlt k
  generalize aL p.bl k=Z at*
  simp -implicitDefEqProofs only[↓reduceIte,go_sem,ab,Nat.reduceAdd,Nat.reduceLT,Nat.reduceEqDiff,t3,t9,hpb]
  refine ae.ok (hgs _) ?_
  simp -implicitDefEqProofs only[↓reduceIte,go_sem,ab,Nat.reduceAdd,Nat.reduceLT,Nat.reduceEqDiff,hk,t3,t7,t9]
  refine ae.ok (hpk _) ?_
  cases hpz:iS p Z A
  case' true=>
   rw[hpz,if_pos rfl]at hsk
   simp -implicitDefEqProofs only[↓reduceIte,go_sem,Nat.reduceLT,Nat.reduceEqDiff,t9]
  case' false=>
   rw[hpz,if_neg (by simp)]at hsk
   simp -implicitDefEqProofs only[↓reduceIte,go_sem,Nat.reduceLT]
   refine aF K.mixed (by kernel_rfl) ?_
   simp -implicitDefEqProofs only[↓reduceIte,go_sem,ab,Nat.reduceAdd,Nat.reduceLT,Nat.reduceEqDiff,t3,t4,t5,t7,t8,t9,hqb,hlb]
   refine ae.ok (hgk _) ?_
   simp -implicitDefEqProofs only[↓reduceIte,go_sem,Nat.reduceLT,Nat.reduceEqDiff]
   refine ae.ok (hgck _) ?_
   simp -implicitDefEqProofs only[↓reduceIte,go_sem,Nat.reduceLT,Nat.reduceEqDiff]
   refine ae.ok (iz _ _ hFk hglk _) ?_
   simp -implicitDefEqProofs only[↓reduceIte,go_sem,Nat.reduceLT,Nat.reduceEqDiff,t9]
  all_goals
   refine cl.same ⟨by simp only[hpb,hqb,hlb],?_⟩
   simp -implicitDefEqProofs only[↓reduceIte,go_sem,Nat.reduceLT,Nat.reduceEqDiff,t3,t4,t5,t7,t8,hw,hsk]
 ·rintro s H' ⟨rfl,t3,t4,t5,t7,t8,t9⟩
  simp -implicitDefEqProofs only[↓reduceIte,go_sem,ab,Nat.reduceAdd,Nat.reduceLT,Nat.reduceEqDiff,t3,t9,hpb]
  refine ae.ok (hgs _) ?_
  simp -implicitDefEqProofs only[↓reduceIte,go_sem,Nat.reduceLT,Nat.reduceEqDiff,t8]
  refine an.ret ?_
  simp -implicitDefEqProofs only[↓reduceIte,go_sem,Nat.reduceLT]
def fV(q:Qu)(i:Nat)(c:Bool)(r:Nat):List Pl:=if c then((cJ q).take r).flatMap (dB i q.pred.length)else[]
theorem AD(q:Qu)(i:Nat)(p:Pj):fV q i (dq p q) 2=iX q i p:=by
 have:(cJ q).take 2=cJ q:=List.take_of_length_le (by rw[nQ];split<;>omega)
 unfold fV iX
 rw[this]
theorem yV(q:Qu)(i:Nat)(c:Bool)(r:Nat)(hr:r<2):fV q i c (r+1)=fV q i c r++if c=true∧(r=1→0<q.aE.length)then dB i q.pred.length (decide (r=1))else[]:=by
 unfold fV
 cases c
 ·simp
 ·simp only[if_true,true_and]
  have h:r=0∨r=1:=by omega
  unfold cJ
  rcases h with rfl|rfl
  ·split<;>simp
  ·split<;>simp[*]
theorem xA(i n:Nat)(r:Bool):(dB i n r).length≤73:=by
 have:=(ep n).2.2.1
 unfold dB
 rw[List.length_cons,kq]
 omega
theorem Az(q:Qu)(i:Nat)(c:Bool)(r:Nat)(hr:r≤2):(fV q i c r).length≤146:=by
 have:∀l:List Bool,(l.flatMap (dB i q.pred.length)).length≤73* l.length:=by
  intro l
  induction l with
  |nil=>simp
  |cons b l ih=>rw[List.flatMap_cons,List.length_append,List.length_cons];have:=xA i q.pred.length b;omega
 unfold fV
 split
 ·have h1:=this ((cJ q).take r)
  have h2:=List.length_take_le r (cJ q)
  omega
 ·simp
theorem nK(f:Fl)(hf:f.Ok)(q:Qu)(hq:q.Ok)(H:aa):ag Tryz.prog 26 [f.av,q.av] H (.ok (.d (.list false ((bJ f q).map Pl.ds)))) H:=by
 have hfl:=hf.len
 have hpl:=hq.pred
 have hjl:=hq.aE
 have hord:=fun H=>qi q.pred.length (by omega) H
 have hol:=(ep q.pred.length).2.2.1
 have hKl:∀k,k≤f.projs.length→(cG f q k).length≤146* 1000000:=fun k hk=>by
  rw[lF f q k hk]
  exact Nat.le_trans (Nat.mul_le_mul (Nat.le_trans (za f q k) (Nat.le_trans hk hfl)) (zt q)) (by omega)
 obtain⟨qb,hqb⟩:∃qb,qb=ay.box 30 8 0 1 [.d q.table,.d (.list false (q.pred.map Atom.enc)),.d (.list false (q.aE.map ig)),.d (.list false (ints q.aC)),.d q.group,.d (.list false (q.bF.map gR)),.d q.order,.d q.ny]:=⟨_,rfl⟩
 obtain⟨fb,hfb⟩:∃fb,fb=ay.box 62 2 0 1 [.d (.list false (ints f.kinds)),.d (.list false (f.projs.map Pj.ds))]:=⟨_,rfl⟩
 refine ag.ai (hint:=(fun _=>false)) Tryz.func26 (by kernel_rfl) rfl [4] (by kernel_rfl) (by decide) (by simp[Tryz.ntmps26]) ?_
 rw[Tryz.ntmps26]
 simp -implicitDefEqProofs only[↓reduceIte,go_sem,ab,Nat.reduceAdd,Nat.reduceLT,Nat.reduceLeDiff,Nat.reduceEqDiff,Fl.av,Fl.ds,Qu.av,Qu.ds,List.length_map]
 obtain⟨n2,hord⟩:=hord (H++[fb,qb])
 rw[←hqb,←hfb]
 refine ae.ok hord ?_
 simp -implicitDefEqProofs only[↓reduceIte,go_sem,Nat.reduceLT]
 refine aA (fun k s H'=>H'=H++[fb,qb,.arr 32 5 (cG f q k).length ((cG f q k).map Pl.ds)]∧s 2= .ptr H.length 0 0 0∧s 3= .ptr (H.length+1) 0 0 0∧s 5= .sl (H.length+2) (cG f q k).length 0 (cG f q k).length∧s 6= .d (.list n2 ((bR q.pred.length).map cu))∧s 7=iA k) f.projs.length (by omega) (ak.eg _ _ 5 32 5 (by decide) (by simp -implicitDefEqProofs only[↓reduceIte,go_sem,Nat.reduceLT,Nat.reduceEqDiff]) _) ?_ ?_ ?_
 ·refine⟨?_,?_⟩
  ·simp -implicitDefEqProofs only[go_sem,show cG f q 0=[]from rfl]
  ·simp -implicitDefEqProofs only[↓reduceIte,go_sem,Nat.reduceAdd,Nat.reduceLT,Nat.reduceEqDiff,show cG f q 0=[]from rfl]
 ·rintro k s H' hk hw ⟨rfl,t2,t3,t5,t6,t7⟩
  have hpx:(f.projs.map Pj.ds)[k]?=some f.projs[k].ds:=by simp[hk]
  have e1:=gM f q hk
  rw[←AD q k f.projs[k]]at e1
  have hcv:=fun H=>me f.projs[k] (hf.all _ (List.getElem_mem hk)).aC q hq H
  have hDl:=hKl k (by omega)
  rw[e1]
  generalize cG f q k=D at*
  generalize f.projs[k]=p at*
  generalize dq p q=cv at*
  simp -implicitDefEqProofs only[↓reduceIte,go_sem,ab,Nat.reduceAdd,Nat.reduceLT,Nat.reduceEqDiff,t2,t7,hfb,List.length_map,hk]
  rw[←hfb]
  refine aA (fun r s H'=>H'=H++[fb,qb,.arr 32 5 (D++fV q k cv r).length ((D++fV q k cv r).map Pl.ds)]∧s 2= .ptr H.length 0 0 0∧s 3= .ptr (H.length+1) 0 0 0∧s 5= .sl (H.length+2) (D++fV q k cv r).length 0 (D++fV q k cv r).length∧s 6= .d (.list n2 ((bR q.pred.length).map cu))∧s 7=iA k∧s 8=iA r) 2 (by omega) (ak.refl _ _) ?_ ?_ ?_
  ·have h0:fV q k cv 0=[]:=by unfold fV;split<;>rfl
   refine⟨by rw[h0,List.append_nil],?_⟩
   simp -implicitDefEqProofs only[↓reduceIte,go_sem,Nat.reduceLT,Nat.reduceEqDiff,t2,t3,t5,t6,t7,h0,List.append_nil]
  ·rintro r s H' hr hw2 ⟨rfl,t2,t3,t5,t6,t7,t8⟩
   have e2:=yV q k cv r hr
   have hDl2:(D++fV q k cv r).length≤146* 1000000+146:=by rw[List.length_append];have:=Az q k cv r (by omega);omega
   rw[e2,←List.append_assoc]
   generalize D++fV q k cv r=E at*
   simp -implicitDefEqProofs only[↓reduceIte,go_sem,Nat.reduceLT,t8,show(r:Int)<2 by omega]
   refine aF K.mixed (by kernel_rfl) ?_
   simp -implicitDefEqProofs only[↓reduceIte,go_sem,ab,Nat.reduceAdd,Nat.reduceLT,Nat.reduceEqDiff,t2,t3,t7,hfb,hqb,hpx,Pj.ds]
   refine ae.ok (by exact hcv _) ?_
   by_cases hadd:cv=true∧(r=1→0<q.aE.length)
   case neg=>
    rw[if_neg hadd,List.append_nil]
    cases cv
    case' false=>simp -implicitDefEqProofs only[↓reduceIte,go_sem,Nat.reduceLT,Nat.reduceEqDiff,t8]
    case' true=>
     have h1:r=1∧q.aE.length=0:=by
      by_cases e:r=1
      ·by_cases e2:0<q.aE.length
       ·exact absurd ⟨rfl,fun _=>e2⟩ hadd
       ·exact⟨e,by omega⟩
      ·exact absurd ⟨rfl,fun h=>absurd h e⟩ hadd
     simp -implicitDefEqProofs only[↓reduceIte,go_sem,ab,Nat.reduceAdd,Nat.reduceLT,Nat.reduceLeDiff,Nat.reduceEqDiff,reduceCtorEq,t3,t8,hqb,List.length_map,eq_true (show(r:Int)=1 by omega),show(q.aE.length:Int)=0 by omega]
    all_goals
     refine cl.same ⟨by simp only[hfb,hqb],?_⟩
     simp -implicitDefEqProofs only[↓reduceIte,go_sem,Nat.reduceLT,Nat.reduceEqDiff,t2,t3,t5,t6,t7,hw2]
   rw[if_pos hadd]
   obtain⟨rfl,hadd⟩:=hadd
   have hcond:∃g:Bool,decide ((r:Int)=1)=g∧decide (r=1)=g:=⟨decide (r=1),decide_eq_decide.2 (by omega),rfl⟩
   obtain⟨g,hg1,hg2⟩:=hcond
   rw[hg2]
   unfold dB
   have hos:(bR q.pred.length).length≤24:=hol
   generalize bR q.pred.length=os at*
   by_cases hr1:(r:Int)=1
   case' pos=>
    have hj:¬(q.aE.length:Int)=0:=by have:=hadd (by omega);omega
    simp -implicitDefEqProofs only[↓reduceIte,go_sem,ab,Nat.reduceAdd,Nat.reduceLT,Nat.reduceLeDiff,Nat.reduceEqDiff,reduceCtorEq,t3,t8,List.length_map,eq_true hr1,hj]
   case' neg=>simp -implicitDefEqProofs only[↓reduceIte,go_sem,ab,Nat.reduceAdd,Nat.reduceLT,Nat.reduceLeDiff,Nat.reduceEqDiff,reduceCtorEq,t3,t8,List.length_map,hr1]
   all_goals
    refine ae.ok (gY q.pred.length (by omega) _) ?_
    have hEl:(E.map Pl.ds).length=E.length:=by simp
    simp -implicitDefEqProofs only[↓reduceIte,go_sem,Nat.reduceAdd,Nat.reduceLT,Nat.reduceLeDiff,Nat.reduceEqDiff,t5,t7,t8,hg1,hEl]
    refine⟨by omega,by omega,?_⟩
    simp -implicitDefEqProofs only[go_sem]
    refine aA (fun m s H'=>H'=H++[fb,qb,.arr 32 5 (E++⟨k,false,upto q.pred.length,0,g⟩::(os.take m).flatMap (bL k g)).length ((E++⟨k,false,upto q.pred.length,0,g⟩::(os.take m).flatMap (bL k g)).map Pl.ds)]∧s 2= .ptr H.length 0 0 0∧s 3= .ptr (H.length+1) 0 0 0∧s 5= .sl (H.length+2) (E++⟨k,false,upto q.pred.length,0,g⟩::(os.take m).flatMap (bL k g)).length 0 (E++⟨k,false,upto q.pred.length,0,g⟩::(os.take m).flatMap (bL k g)).length∧s 6= .d (.list n2 (os.map cu))∧s 7=iA k∧s 8=iA r∧s 9=iA m) os.length (by omega) (ak.refl _ _) ?_ ?_ ?_
    ·refine⟨?_,?_⟩
     ·simp -implicitDefEqProofs only[go_sem,hfb,hqb,List.take_zero,List.flatMap_nil,List.map_append,List.length_append,List.map_cons,List.map_nil,List.length_cons,List.length_nil,Pl.ds,iD]
      try rfl
     ·simp -implicitDefEqProofs only[↓reduceIte,go_sem,Nat.reduceLT,Nat.reduceEqDiff,t2,t3,t6,t7,t8,List.take_zero,List.flatMap_nil,List.length_append,List.length_cons,List.length_nil]
      try rfl
    ·rintro m s H' hm hw3 ⟨rfl,t2,t3,t5,t6,t7,t8,t9⟩
     have hx:(os.map cu)[m]?=some (cu os[m]):=by simp[hm]
     have hll:=kq k g (os.take m)
     have htl:(os.take m).length≤24:=Nat.le_trans (List.length_take_le _ _) (by omega)
     have hDl3:(E++⟨k,false,upto q.pred.length,0,g⟩::(os.take m).flatMap (bL k g)).length≤146* 1000000+300:=by rw[List.length_append,List.length_cons];omega
     rw[jc _ _ _ hm]
     rw[show E++(⟨k,false,upto q.pred.length,0,g⟩:Pl)::((os.take m).flatMap (bL k g)++bL k g os[m])=(E++⟨k,false,upto q.pred.length,0,g⟩::(os.take m).flatMap (bL k g))++bL k g os[m] by simp]
     generalize E++(⟨k,false,upto q.pred.length,0,g⟩:Pl)::(os.take m).flatMap (bL k g)=D2 at*
     generalize os[m]=o at*
     simp -implicitDefEqProofs only[↓reduceIte,go_sem,Nat.reduceLT,Nat.reduceEqDiff,t6,t9,hm,List.length_map]
     refine aA (fun n s H'=>H'=H++[fb,qb,.arr 32 5 (D2++(bL k g o).take n).length ((D2++(bL k g o).take n).map Pl.ds)]∧s 2= .ptr H.length 0 0 0∧s 3= .ptr (H.length+1) 0 0 0∧s 5= .sl (H.length+2) (D2++(bL k g o).take n).length 0 (D2++(bL k g o).take n).length∧s 6= .d (.list n2 (os.map cu))∧s 7=iA k∧s 8=iA r∧s 9=iA m∧s 10=iA ((n:Int)+1)) 3 (by omega) (ak.refl _ _) ?_ ?_ ?_
     ·refine⟨by rw[List.take_zero,List.append_nil],?_⟩
      simp -implicitDefEqProofs only[↓reduceIte,go_sem,Nat.reduceLT,Nat.reduceEqDiff,Int.reduceAdd,t2,t3,t5,t6,t7,t8,t9,List.take_zero,List.append_nil]
     ·rintro n s H' hn hw4 ⟨rfl,t2,t3,t5,t6,t7,t8,t9,t10⟩
      have e7:(bL k g o).take (n+1)=(bL k g o).take n++[⟨k,true,o,(n:Int)+1,g⟩]:=by
       rcases n with _|_|_|n<;>first|rfl|omega
      have hDl4:(D2++(bL k g o).take n).length≤146* 1000000+310:=by
       have:=List.length_take_le n (bL k g o)
       rw[List.length_append]
       have h3:(bL k g o).length=3:=rfl
       omega
      rw[e7,←List.append_assoc]
      generalize D2++(bL k g o).take n=D3 at*
      have hEl:(D3.map Pl.ds).length=D3.length:=by simp
      obtain⟨n1,hn1⟩:∃n1:Int,n1=(n:Int)+1:=⟨_,rfl⟩
      rw[←hn1]at t10⊢
      simp -implicitDefEqProofs only[↓reduceIte,go_sem,Nat.reduceAdd,Nat.reduceLT,Nat.reduceLeDiff,Nat.reduceEqDiff,t5,t6,t7,t8,t9,t10,hx,cu,hg1,hEl,show n1≤3 by omega]
      refine⟨by omega,by omega,?_⟩
      refine cl.same ⟨?_,?_⟩
      ·simp -implicitDefEqProofs only[go_sem,hfb,hqb,List.map_append,List.map_cons,List.map_nil,Pl.ds,iD]
      ·simp -implicitDefEqProofs only[↓reduceIte,go_sem,Nat.reduceLT,Nat.reduceEqDiff,t2,t3,t6,t7,t8,t9,wrap64_in (n1+1) (by omega) (by omega),show(n:Int)+1+1=n1+1 by omega]
     ·rintro s H' ⟨rfl,t2,t3,t5,t6,t7,t8,t9,t10⟩
      rw[show(bL k g o).take 3=bL k g o from rfl]at t5⊢
      simp -implicitDefEqProofs only[↓reduceIte,go_sem,Nat.reduceLT,Nat.reduceEqDiff,Int.reduceLE,Int.reduceAdd,t9,t10]
      refine cl.same ⟨rfl,?_⟩
      simp -implicitDefEqProofs only[↓reduceIte,go_sem,Nat.reduceLT,Nat.reduceEqDiff,t2,t3,t5,t6,t7,t8,hw3]
    ·rintro s H' ⟨rfl,t2,t3,t5,t6,t7,t8,t9⟩
     rw[List.take_length]at t5⊢
     simp -implicitDefEqProofs only[↓reduceIte,go_sem,Nat.reduceLT,Nat.reduceEqDiff,t6,t9,t8,List.length_map]
     refine cl.same ⟨?_,?_⟩
     ·rfl
     ·simp -implicitDefEqProofs only[↓reduceIte,go_sem,Nat.reduceLT,Nat.reduceEqDiff,t2,t3,t5,t6,t7,hw2]
  ·rintro s H' ⟨rfl,t2,t3,t5,t6,t7,t8⟩
   simp -implicitDefEqProofs only[↓reduceIte,go_sem,Nat.reduceLT,Nat.reduceEqDiff,Int.reduceLT,t7,t8]
   refine cl.same ⟨rfl,?_⟩
   simp -implicitDefEqProofs only[↓reduceIte,go_sem,Nat.reduceLT,Nat.reduceEqDiff,t2,t3,t5,t6,hw]
 ·rintro s H' ⟨rfl,t2,t3,t5,t6,t7⟩
  rw[show bJ f q=cG f q f.projs.length from rfl]
  generalize cG f q f.projs.length=D at*
  have e5:(D.map Pl.ds).length=D.length:=by simp
  simp -implicitDefEqProofs only[↓reduceIte,go_sem,ab,Nat.reduceAdd,Nat.reduceLT,Nat.reduceEqDiff,t2,t5,t7,hfb,List.length_map]
  rw[←hfb]
  refine an.ret ?_
  generalize D.map Pl.ds=DD at*
  simp -implicitDefEqProofs only[↓reduceIte,go_sem,Nat.reduceLT,List.take_of_length_le (Nat.le_of_eq e5)]
theorem uI{L:List Pl}{k:Nat}(h:k<L.length):(L.map Pl.ds)[k]?=some L[k].ds:=by simp[h]
theorem yD(f:Fl)(q:Qu)(L:List Pl)(x:Pl):eF f q (L++[x])=dh f q (eF f q L) x:=by
 unfold eF
 rw[List.foldl_append];rfl
theorem xf(f:Fl)(hf:f.Ok)(hstr:∀p∈f.projs,p.pU)(q:Qu)(hq:q.Ok)(hl:(bJ f q).length≤1000000000)(H:aa):ag Tryz.prog 29 [f.av,q.av] H (C9 (eF f q (bJ f q))) H:=by
 have hpl:∀x∈bJ f q,∃(i:Nat) (p:Pj),x.proj=i∧f.projs[i]?=some p∧dM f q x=eN p q x∧x.order.length≤100∧∀H,ag Tryz.prog 13 [p.av,q.av,x.av] H (.ok (du (eN p q x))) H:=fun x hx=>by
  have ho:=je hx
  have hpd:=hq.pred
  obtain⟨i,p,h1,h2,_,_,h3⟩:=k8 hx
  refine⟨i,p,h1,h2,by simp[dM,h1,h2],by omega,fun H=>CC p (hf.all _ (List.mem_of_getElem? h2)) (hstr _ (List.mem_of_getElem? h2)) q hq x (by omega) ?_ H⟩
  rcases h3 with h3|h3
  ·rw[h3.2.2];exact⟨by omega,by omega⟩
  ·exact⟨by omega,by omega⟩
 have hr:=fun H=>nK f hf q hq H
 have hlt:=fun L=>u7 f q L
 have hfl:=hf.len
 generalize bJ f q=L at*
 obtain⟨qb,hqb⟩:∃qb,qb=ay.box 30 8 0 1 [.d q.table,.d (.list false (q.pred.map Atom.enc)),.d (.list false (q.aE.map ig)),.d (.list false (ints q.aC)),.d q.group,.d (.list false (q.bF.map gR)),.d q.order,.d q.ny]:=⟨_,rfl⟩
 obtain⟨fb,hfb⟩:∃fb,fb=ay.box 62 2 0 1 [.d (.list false (ints f.kinds)),.d (.list false (f.projs.map Pj.ds))]:=⟨_,rfl⟩
 refine ag.cA (hint:=fun _=>false) Tryz.func29 (by kernel_rfl) rfl [.cell 4 32,.tmp 5,.tmp 6] (by kernel_rfl) (by simp[Tryz.ntmps29]) ?_
 rw[Tryz.ntmps29]
 simp -implicitDefEqProofs only[↓reduceIte,go_sem,ab,Nat.reduceAdd,Nat.reduceLT,Nat.reduceEqDiff,Fl.av,Fl.ds,Qu.av,Qu.ds]
 rw[←hqb,←hfb]
 refine ae.ok (by exact hr _) ?_
 cases L with
 |nil=>
  simp -implicitDefEqProofs only[↓reduceIte,go_sem,aq,Nat.reduceAdd,Nat.reduceLT,Nat.reduceEqDiff,List.map_nil,List.length_nil]
  refine cV.ret ?_
  simp -implicitDefEqProofs only[↓reduceIte,go_sem,ab,Nat.reduceAdd,Nat.reduceLT,Nat.reduceLeDiff,Nat.reduceEqDiff,bH,cX,mZ]
  try rfl
 |cons x0 L0=>
 have hn0:¬(((x0::L0).length:Nat):Int)=0:=by rw[List.length_cons];omega
 obtain⟨i,p,h1,h2,h3,h4,h5⟩:=hpl x0 List.mem_cons_self
 have hx:=uI (L:=x0::L0) (k:=0) (by simp)
 have hb0:eF f q ((x0::L0).take 1)=some (x0,eN p q x0):=by rw[←h3];rfl
 have hg0:(x0::L0)[0]?=some x0:=rfl
 have hLl:(x0::L0).length=L0.length+1:=rfl
 rw[show(x0::L0)[0]=x0 from rfl]at hx
 generalize hLe:x0::L0=L at*
 clear hLe
 have hi:=(List.getElem?_eq_some_iff.1 h2).1
 have hpx:(f.projs.map Pj.ds)[i]?=some p.ds:=by simp[h2]
 have hc0:=hlt (L.take 1)
 rw[hb0]at hc0
 simp only[xu]at hc0
 have hL1:1≤L.length:=by omega
 obtain⟨xj,xl,xo,xr,xg⟩:=x0
 simp only at h1
 subst h1
 simp -implicitDefEqProofs only[↓reduceIte,go_sem,Nat.reduceLT,List.length_map,hn0]
 refine aF K.mixed (by kernel_rfl) ?_
 simp -implicitDefEqProofs only[↓reduceIte,go_sem,ab,Nat.reduceAdd,Nat.reduceLT,Nat.reduceLeDiff,Nat.reduceEqDiff,Int.reduceLE,Int.reduceToNat,hqb,hfb,hx,hpx,Pl.ds,Pj.ds,iD]
 refine ae.ok (by exact h5 _) ?_
 generalize eN p q ⟨i,xl,xo,xr,xg⟩=c0 at*
 simp -implicitDefEqProofs only[↓reduceIte,go_sem,Nat.reduceLT]
 refine aA (fun k s H'=>∃(a:Nat) (x:Pl) (n:Nat),H'=H++[fb,qb,.box 32 5 0 1 mZ]∧s 2= .ptr H.length 0 0 0∧s 3= .ptr (H.length+1) 0 0 0∧s 4= .ptr (H.length+2) 0 0 0∧s 7= .d (.list false (L.map Pl.ds))∧s 8=iA a∧s 9=du n∧s 10=iA ((k:Int)+1)∧L[a]?=some x∧eF f q (L.take (k+1))=some (x,n)) (L.length-1) (by omega) (ak.refl _ _) ?_ ?_ ?_
 ·refine⟨0,⟨i,xl,xo,xr,xg⟩,c0,by rw[hfb,hqb];rfl,?_⟩
  simp -implicitDefEqProofs only[↓reduceIte,go_sem,Nat.reduceLT,Nat.reduceEqDiff,Int.reduceAdd,hg0,hb0]
 ·rintro k s H' hk hw ⟨a,x,n,rfl,t2,t3,t4,t7,t8,t9,t10,ha,hb⟩
  have hka:k+1<L.length:=by omega
  obtain⟨i2,p2,g1,g2,g3,g4,g5⟩:=hpl L[k+1] (List.getElem_mem _)
  have hx2:(L.map Pl.ds)[k+1]?=some L[k+1].ds:=uI hka
  have hpx2:(f.projs.map Pj.ds)[i2]?=some p2.ds:=by simp[g2]
  have hi2:=(List.getElem?_eq_some_iff.1 g2).1
  have hb2:eF f q (L.take (k+1+1))=dh f q (some (x,n)) L[k+1]:=by rw[List.take_succ_eq_append_getElem hka,yD,hb]
  have hgy:L[k+1]?=some L[k+1]:=List.getElem?_eq_getElem hka
  have hnl:=hlt (L.take (k+1))
  rw[hb]at hnl
  simp only[xu]at hnl
  simp only[dh,g3]at hb2
  generalize L[k+1]=y at*
  obtain⟨yj,yl,yo,yr,yg⟩:=y
  simp only at g1
  subst g1
  obtain⟨k1,hk1⟩:∃k1,k1=k+1:=⟨_,rfl⟩
  have hk1c:((k:Int)+1)=(k1:Int):=by omega
  rw[←hk1]at hx2 hgy hka hb2⊢
  rw[hk1c]at t10
  clear hb hpl h5
  simp -implicitDefEqProofs only[↓reduceIte,go_sem,Nat.reduceLT,Nat.reduceEqDiff,t7,t10,List.length_map,hka]
  refine aF K.mixed (by kernel_rfl) ?_
  simp -implicitDefEqProofs only[↓reduceIte,go_sem,ab,Nat.reduceAdd,Nat.reduceLT,Nat.reduceLeDiff,Nat.reduceEqDiff,t2,t3,t7,t10,hqb,hfb,hx2,hpx2,Pl.ds,Pj.ds,iD]
  refine ae.ok (by exact g5 _) ?_
  generalize eN p2 q ⟨i2,yl,yo,yr,yg⟩=c at*
  by_cases hc:c<n
  case' pos=>
   rw[if_pos hc]at hb2
   simp -implicitDefEqProofs only[↓reduceIte,go_sem,Nat.reduceLT,Nat.reduceEqDiff,t9,t10,hc]
   refine cl.same ⟨k1,⟨i2,yl,yo,yr,yg⟩,c,by rw[hfb,hqb],?_⟩
  case' neg=>
   rw[if_neg hc]at hb2
   simp -implicitDefEqProofs only[↓reduceIte,go_sem,Nat.reduceLT,Nat.reduceEqDiff,t9,t10,hc]
   refine cl.same ⟨a,x,n,by rw[hfb,hqb],?_⟩
  all_goals
   simp -implicitDefEqProofs only[↓reduceIte,go_sem,Nat.reduceLT,Nat.reduceEqDiff,t2,t3,t4,t7,t8,t9,wrap64_in ((k1:Int)+1) (by omega) (by omega)]
   first|exact⟨ha,hb2⟩|exact⟨hgy,hb2⟩
 ·rintro s H' ⟨a,x,n,rfl,t2,t3,t4,t7,t8,t9,t10,ha,hb⟩
  rw[show L.length-1+1=L.length by omega]at hb
  rw[List.take_length]at hb
  have hxa:(L.map Pl.ds)[a]?=some x.ds:=by simp[ha]
  have hal:=(List.getElem?_eq_some_iff.1 ha).1
  obtain⟨xj,xl,xo,xr,xg⟩:=x
  simp -implicitDefEqProofs only[↓reduceIte,go_sem,aq,Nat.reduceAdd,Nat.reduceLT,Nat.reduceEqDiff,t4,t7,t8,t9,t10,hxa,List.length_map,Pl.ds,iD,mZ,show ¬((L.length-1:Nat):Int)+1<L.length by omega]
  rw[hb]
  refine cV.ret ?_
  simp -implicitDefEqProofs only[↓reduceIte,go_sem,ab,Nat.reduceAdd,Nat.reduceLT,Nat.reduceLeDiff,Nat.reduceEqDiff,t4,bH,cX,Pl.av,Pl.ds,iD]
  try rfl
theorem tT(S:List (List Sg)){k:Nat}(h:k<S.length):bg (S.take (k+1))=bg (S.take k)++[[.list false (S[k].map Sg.ds)]]:=by unfold bg;rw[List.take_succ_eq_append_getElem h,List.map_append];rfl
theorem BY(l:List Sg){j:Nat}(h:j<l.length):(l.take (j+1)).map Sg.ds=(l.take j).map Sg.ds++[l[j].ds]:=by rw[List.take_succ_eq_append_getElem h,List.map_append];rfl
theorem Dh(l:List Pj){j:Nat}(h:j<l.length):(l.take (j+1)).map Pj.ds=(l.take j).map Pj.ds++[l[j].ds]:=by rw[List.take_succ_eq_append_getElem h,List.map_append];rfl
theorem vy(f:Fl)(hf:f.Ok)(H:aa):ag Tryz.prog 24 [f.av] H (.ok f.av) H:=by
 have hfl:=hf.len
 have hfa:=hf.all
 obtain⟨ks,ps⟩:=f
 simp only at*
 refine ag.cA (hint:=fun t=>t==1000007||t==1000016||t==1000017||t==1000018) Tryz.func24 (by kernel_rfl) rfl [.cell 2 62] (by kernel_rfl) (by simp[Tryz.ntmps24]) ?_
 rw[Tryz.ntmps24]
 simp -implicitDefEqProofs only[↓reduceIte,go_sem,ab,aq,Nat.reduceAdd,Nat.reduceLT,Nat.reduceLeDiff,Nat.reduceEqDiff,Nat.reduceBEq,Fl.av,Fl.ds]
 obtain⟨fb,hfb⟩:∃fb,fb=ay.box 57 2 0 1 [.d (.list false (ints ks)),.d (.list false (ps.map Pj.ds))]:=⟨_,rfl⟩
 have hb:∀m,fb.below m=true:=by intro m;subst hfb;simp -implicitDefEqProofs only[go_sem]
 obtain⟨zb,hzb⟩:∃zb,zb=ay.box 62 2 0 1 [.d (.v (.slice none 0 0)),.d (.v (.slice none 0 0))]:=⟨_,rfl⟩
 have hb2:∀m,zb.below m=true:=by intro m;subst hzb;simp -implicitDefEqProofs only[go_sem]
 refine aA (fun n s H'=>H'=H++[fb,zb,.box 62 2 0 1 [.d (.list false (ints ks)),.sl (H.length+3) n 0 n],.arr 45 4 n ((ps.take n).map Pj.ds)]∧s 1= .ptr H.length 0 0 0∧s 2= .ptr (H.length+1) 0 0 0∧s 3= .ptr (H.length+2) 0 0 0∧s 4=iA n) ps.length (by omega) (ak.df _ _ (H.length+2) 62 2 0 1 [.d (.list false (ints ks)),.d (.v (.slice none 0 0))] 1 _ 45 4 (by decide) (by simp -implicitDefEqProofs only[go_sem]) rfl rfl) ?_ ?_ ?_
 ·refine⟨?_,?_⟩
  ·simp -implicitDefEqProofs only[go_sem,Nat.reduceAdd,hfb,hzb,List.take_zero]
  ·simp -implicitDefEqProofs only[↓reduceIte,go_sem,Nat.reduceLT,Nat.reduceEqDiff]
 ·rintro n s H' hn hw ⟨rfl,t1,t2,t3,t4⟩
  have hpx:(ps.map Pj.ds)[n]?=some ps[n].ds:=by simp[hn]
  have hok:=hfa ps[n] (List.getElem_mem hn)
  have e1:=Dh ps hn
  have e2:((ps.take n).map Pj.ds).length=n:=by simp;omega
  rw[e1]
  generalize (ps.take n).map Pj.ds=PP at*
  generalize ps[n]=p at*
  obtain⟨cs,key,rows,S⟩:=p
  have hl:=hok.len
  have hm:=hok.many
  have hs:=hok.same
  simp only at hl hm hs
  generalize bq S=g at*
  simp -implicitDefEqProofs only[↓reduceIte,go_sem,ab,aq,Nat.reduceAdd,Nat.reduceLT,Nat.reduceLeDiff,Nat.reduceEqDiff,Nat.reduceBEq,t1,t4,hfb,List.length_map,hn,hpx,Pj.ds,iD]
  rw[←hfb]
  refine⟨_,_,ak.df _ _ (H.length+5) 45 4 0 1 [.d (.list false (ints cs)),.d (.list false (ints key)),iA rows,.d (.v (.slice none 0 0))] 3 _ 109 1 (by decide) (by simp -implicitDefEqProofs only[go_sem]) rfl rfl,?_⟩
  simp -implicitDefEqProofs only[go_sem,Nat.reduceAdd]
  obtain⟨ob,hob⟩:∃ob,ob=ay.box 62 2 0 1 [.d (.list false (ints ks)),.sl (H.length+3) n 0 n]:=⟨_,rfl⟩
  obtain⟨pb,hpb⟩:∃pb,pb=ay.box 36 4 0 1 [.d (.list false (ints cs)),.d (.list false (ints key)),.d (.v (.int .i64 rows)),.d (.list false (bg S))]:=⟨_,rfl⟩
  have hb3:ob.below (H.length+7)=true:=by subst hob;simp -implicitDefEqProofs only[go_sem,Nat.reduceLT]
  have hb4:∀m,pb.below m=true:=by intro m;subst hpb;simp -implicitDefEqProofs only[go_sem]
  refine aA (fun i s H'=>H'=H++[fb,zb,ob,.arr 45 4 n PP,pb,.box 45 4 0 1 [.d (.list false (ints cs)),.d (.list false (ints key)),iA rows,.sl (H.length+6) i 0 i],.arr 109 1 i (bg (S.take i))]∧s 1= .ptr H.length 0 0 0∧s 2= .ptr (H.length+1) 0 0 0∧s 3= .ptr (H.length+2) 0 0 0∧s 4=iA n∧s 5= .ptr (H.length+4) 0 0 0∧s 6= .ptr (H.length+5) 0 0 0∧s 7=iA i) S.length (by omega) (ak.refl _ _) ?_ ?_ ?_
  ·refine⟨?_,?_⟩
   ·simp -implicitDefEqProofs only[go_sem,hob,hpb,List.take_zero,bg]
   ·simp -implicitDefEqProofs only[↓reduceIte,go_sem,Nat.reduceLT,Nat.reduceEqDiff,t1,t2,t3,t4]
  ·rintro i s H' hi hw2 ⟨rfl,t1,t2,t3,t4,t5,t6,t7⟩
   have hx:=m2 hi
   have hli:=hs S[i] (List.getElem_mem hi)
   have e1:=tT S hi
   have e3:(bg (S.take i)).length=i:=by rw[dj,List.length_take];omega
   rw[e1]
   generalize bg (S.take i)=W at*
   generalize S[i]=l at*
   simp -implicitDefEqProofs only[↓reduceIte,go_sem,ab,Nat.reduceAdd,Nat.reduceLT,Nat.reduceEqDiff,Nat.reduceBEq,t5,t7,hpb,dj,hi]
   rw[←hpb]
   refine aA (fun j s H'=>H'=H++[fb,zb,ob,.arr 45 4 n PP,pb,.box 45 4 0 1 [.d (.list false (ints cs)),.d (.list false (ints key)),iA rows,.sl (H.length+6) i 0 i],.arr 109 1 i W,.arr 114 12 j ((l.take j).map Sg.ds)]∧s 1= .ptr H.length 0 0 0∧s 2= .ptr (H.length+1) 0 0 0∧s 3= .ptr (H.length+2) 0 0 0∧s 4=iA n∧s 5= .ptr (H.length+4) 0 0 0∧s 6= .ptr (H.length+5) 0 0 0∧s 7=iA i∧s 8= .sl (H.length+7) j 0 j∧s 9=iA j) l.length (by omega) (ak.eg _ _ 8 114 12 (by decide) (by simp -implicitDefEqProofs only[↓reduceIte,go_sem,Nat.reduceLT,Nat.reduceEqDiff]) _) ?_ ?_ ?_
   ·refine⟨?_,?_⟩
    ·simp -implicitDefEqProofs only[go_sem,List.take_zero]
    ·simp -implicitDefEqProofs only[↓reduceIte,go_sem,Nat.reduceAdd,Nat.reduceLT,Nat.reduceEqDiff,t1,t2,t3,t4,t5,t6,t7]
   ·rintro j s H' hj hw3 ⟨rfl,t1,t2,t3,t4,t5,t6,t7,t8,t9⟩
    have hy:(l.map Sg.ds)[j]?=some l[j].ds:=by simp[hj]
    have e4:=BY l hj
    have e5:((l.take j).map Sg.ds).length=j:=by simp;omega
    rw[e4]
    generalize (l.take j).map Sg.ds=B at*
    generalize l[j]=sg at*
    obtain⟨sk,sw,⟨zr,zn,mn,mx⟩,ns,bd⟩:=sg
    simp -implicitDefEqProofs only[↓reduceIte,go_sem,ab,aq,Nat.reduceAdd,Nat.reduceLT,Nat.reduceLeDiff,Nat.reduceEqDiff,Nat.reduceBEq,t5,t7,t9,hpb,hx,hy,hj,List.length_map,Sg.ds,iD,t8,e5]
    rw[←hpb]
    refine⟨by omega,by omega,?_⟩
    refine cl.cut [fb,zb,ob,.arr 45 4 n PP,pb,.box 45 4 0 1 [.d (.list false (ints cs)),.d (.list false (ints key)),iA rows,.sl (H.length+6) i 0 i],.arr 109 1 i W,.arr 114 12 (j+1) (B++[Sg.ds ⟨sk,sw,⟨zr,zn,mn,mx⟩,ns,bd⟩])] _ 8 rfl rfl (by rw[hob];simp -implicitDefEqProofs only[go_sem,Nat.reduceLT,hb,hb2,hb4]) ?_
    refine⟨rfl,?_⟩
    simp -implicitDefEqProofs only[↓reduceIte,go_sem,Nat.reduceLT,Nat.reduceEqDiff,t1,t2,t3,t4,t5,t6,t7,hw3]
   ·rintro s H' ⟨rfl,t1,t2,t3,t4,t5,t6,t7,t8,t9⟩
    rw[List.take_length]
    have e5:(l.map Sg.ds).length=l.length:=by simp
    simp -implicitDefEqProofs only[↓reduceIte,go_sem,ab,Nat.reduceAdd,Nat.reduceLT,Nat.reduceEqDiff,Nat.reduceBEq,t5,t7,t9,hpb,hx,List.length_map]
    rw[←hpb]
    refine⟨_,_,ak.cut [fb,zb,ob,.arr 45 4 n PP,pb,.box 45 4 0 1 [.d (.list false (ints cs)),.d (.list false (ints key)),iA rows,.sl (H.length+6) i 0 i],.arr 109 1 i W] [.arr 114 12 l.length (l.map Sg.ds)] 7 rfl _ (by simp -implicitDefEqProofs only[go_sem,Nat.reduceLT,hb,hb2,hb3,hb4]),?_⟩
    generalize l.map Sg.ds=ld at*
    simp -implicitDefEqProofs only[↓reduceIte,go_sem,ab,aq,Nat.reduceAdd,Nat.reduceLT,Nat.reduceLeDiff,Nat.reduceEqDiff,Nat.reduceBEq,t6,t7,t8,e3,List.take_of_length_le (Nat.le_of_eq e5)]
    refine⟨by omega,by omega,cl.same ⟨rfl,?_⟩⟩
    simp -implicitDefEqProofs only[↓reduceIte,go_sem,Nat.reduceLT,Nat.reduceEqDiff,t1,t2,t3,t4,t5,t6,hw2]
  ·rintro s H' ⟨rfl,t1,t2,t3,t4,t5,t6,t7⟩
   rw[List.take_length]
   have e5:(bg S).length=S.length:=dj S
   simp -implicitDefEqProofs only[↓reduceIte,go_sem,ab,Nat.reduceAdd,Nat.reduceLT,Nat.reduceEqDiff,Nat.reduceBEq,t5,t7,hpb,dj]
   rw[←hpb]
   refine⟨_,_,ak.kF _ _ (H.length+5) 4 0 1 3 (H.length+6) S.length 0 S.length 1 45 109 [.d (.list false (ints cs)),.d (.list false (ints key)),iA rows,.sl (H.length+6) S.length 0 S.length] (bg S) (by simp -implicitDefEqProofs only[go_sem]) rfl (by simp -implicitDefEqProofs only[go_sem]),?_⟩
   simp -implicitDefEqProofs only[↓reduceIte,go_sem,ab,aq,Nat.reduceAdd,Nat.reduceLT,Nat.reduceLeDiff,Nat.reduceEqDiff,Nat.reduceBEq,t3,t4,t6,hob,e2,List.take_of_length_le (Nat.le_of_eq e5)]
   refine⟨by omega,by omega,?_⟩
   refine cl.cut [fb,zb,.box 62 2 0 1 [.d (.list false (ints ks)),.sl (H.length+3) (n+1) 0 (n+1)],.arr 45 4 (n+1) (PP++[Pj.ds ⟨cs,key,rows,S⟩])] _ 4 rfl rfl (by simp -implicitDefEqProofs only[go_sem,Nat.reduceLT,hb,hb2]) ?_
   refine⟨rfl,?_⟩
   simp -implicitDefEqProofs only[↓reduceIte,go_sem,Nat.reduceLT,Nat.reduceEqDiff,t1,t2,t3,hw]
 ·rintro s H' ⟨rfl,t1,t2,t3,t4⟩
  rw[List.take_length]
  have e5:(ps.map Pj.ds).length=ps.length:=by simp
  simp -implicitDefEqProofs only[↓reduceIte,go_sem,ab,Nat.reduceAdd,Nat.reduceLT,Nat.reduceEqDiff,Nat.reduceBEq,t1,t4,hfb,List.length_map]
  generalize hPD:ps.map Pj.ds=PD at*
  refine⟨_,_,ak.kF _ _ (H.length+2) 2 0 1 1 (H.length+3) ps.length 0 ps.length 4 62 45 [.d (.list false (ints ks)),.sl (H.length+3) ps.length 0 ps.length] PD (by simp -implicitDefEqProofs only[go_sem]) rfl (by simp -implicitDefEqProofs only[go_sem]),?_⟩
  simp -implicitDefEqProofs only[↓reduceIte,go_sem,ab,aq,Nat.reduceAdd,Nat.reduceLT,Nat.reduceEqDiff,t2,t3,hzb,List.take_of_length_le (Nat.le_of_eq e5)]
  refine cV.ret ?_
  simp -implicitDefEqProofs only[↓reduceIte,go_sem,ab,Nat.reduceAdd,Nat.reduceLeDiff,Nat.reduceEqDiff,bH,cX,t2,Fl.av,Fl.ds,hPD]
theorem r6{z:Zn}{v:al}(hz:z.pU)(hv:v.s.size≤140737488351232):(aT z v).pU:=by
 have h1:(gk z v).pU:=by unfold gk;split;exact⟨hv,hv⟩;exact hz
 have h2:(gH (gk z v) v).pU:=by unfold gH;split;exact⟨hv,h1.mx⟩;exact h1
 unfold aT
 split
 ·exact⟨hz.mn,hz.mx⟩
 ·unfold ir;split;exact⟨h2.mn,hv⟩;exact h2
theorem Bt{l:List al}(h:∀v∈l,v.s.size≤140737488351232):(oF l).pU:=by
 have:∀(l:List al) (z:Zn),(∀v∈l,v.s.size≤140737488351232)→z.pU→(l.foldl aT z).pU:=by
  intro l
  induction l with
  |nil=>exact fun z _ hz=>hz
  |cons v l ih=>exact fun z hl hz=>ih _ (fun x hx=>hl x (by simp[hx])) (r6 hz (hl v (by simp)))
 exact this l _ h ⟨show jE.size≤140737488351232 by decide,show jE.size≤140737488351232 by decide⟩
theorem mF.str{R:List (List al)}{ks cs key:List Int}{w:Int}{p:Pj}(h:mF R ks cs key w p)(hR:rY R):p.pU:=by
 refine⟨fun l hl s hs=>?_⟩
 have hp:=h.pieces
 rw[h.eq]at hl
 obtain⟨c,hc,rfl⟩:=List.mem_map.1 hl
 obtain⟨x,hx,rfl⟩:=List.mem_map.1 hs
 have h0:=hp c hc x hx
 obtain⟨q,hq,rfl⟩:=List.mem_map.1 hx
 rw[pv h0]
 refine Bt fun v hv=>?_
 obtain⟨r,hr,rfl⟩:=List.mem_map.1 hv
 have hr2:r∈R:=by
  unfold qC at hq
  obtain⟨k,_,rfl⟩:=List.mem_map.1 hq
  exact(St.fL (kb key).ord).1 (List.mem_of_mem_drop (List.mem_of_mem_take hr))
 unfold iu
 split
 ·decide
 ·rw[List.getD_eq_getElem?_getD]
  cases e:r[c.toNat]? with
  |none=>decide
  |some v=>exact(hR.val r hr2 v (List.mem_of_getElem? e)).s
theorem vO{R:List (List al)}{ks c y:List Int}{p:Pj}(hR:rY R)(h:p∈nW R ks c y):p.pU:=by
 unfold nW at h
 split at h
 ·cases h
 ·split at h
  ·rename_i h1
   rw[List.mem_singleton.1 h]
   exact(iP h1).str hR
  ·cases h
theorem C3{t:iO}(ht:t.Ok)(h:(pf t).2=true):∀p∈(pf t).1.projs,p.pU:=by
 obtain⟨h1,h2,h3⟩:=m9 h
 rw[h1]
 intro p hp
 simp only[dt]at hp
 rcases List.mem_cons.1 hp with rfl|hp
 ·exact(iP h3).str ht.rows
 ·simp only[Nat.lt_add_one,if_true,show 0<2 by omega,List.mem_append]at hp
  rcases hp with hp|hp
  ·exact vO ht.rows hp
  ·exact vO ht.rows hp
def G2:Option (Pl×Nat)→Pl
 |none=>⟨0,false,[],0,false⟩
 |some (b,_)=>b
theorem rR{f:FuncId}{args:List AV}{H:aa}{o:Option (Pl×Nat)}(h:ag Tryz.prog f args H (C9 o) H):ag Tryz.prog f args H (.ok (.a7 [(G2 o).av,du (xu o),iA (if o.isSome then 0 else 6)])) H:=by
 cases o with
 |none=>exact ag.kf h (.cons (.agg (.cons (.refl _) (.cons (.refl _) (.cons .nil (.cons (.refl _) (.cons (.refl _) .nil)))))) (.cons (.refl _) (.cons (.refl _) .nil)))
 |some x=>exact h
theorem EF{L:List Pl}{k:Nat}(h:k<L.length):(L.map Pl.ds)[k]?=some L[k].ds:=by simp[h]
theorem ti(t:iO)(ht:t.Ok)(q:Qu)(H:aa):ag Tryz.prog 4 [t.av,q.av] H (.ok (bA true)) H:=by
 have hof:=fun H=>Av t ht H
 have hfk:=EH (t:=t)
 have hfm:=m9 (t:=t)
 have hf3:=kj t 2
 have hfs:=C3 ht
 generalize pf t=fb at*
 obtain⟨f,b⟩:=fb
 simp only at hof hfk hfm hfs
 have hsm:=fun H=>so q H
 refine ag.ai (hint:=(fun _=>false)) Tryz.func4 (by kernel_rfl) rfl [4] (by kernel_rfl) (by decide) (by simp[Tryz.ntmps4]) ?_
 rw[Tryz.ntmps4]
 simp -implicitDefEqProofs only[↓reduceIte,go_sem,Nat.reduceAdd,Nat.reduceLT,Nat.reduceEqDiff,iO.av,iO.ds,Qu.av,Qu.ds]
 refine ae.ok (s5 _) ?_
 simp -implicitDefEqProofs only[↓reduceIte,go_sem,ab,Nat.reduceAdd,Nat.reduceLT,Nat.reduceEqDiff]
 refine ae.ok (hof _) ?_
 cases b with
 |false=>
  simp -implicitDefEqProofs only[↓reduceIte,go_sem,aq,Nat.reduceAdd,Nat.reduceLT,Nat.reduceEqDiff,Fl.av,Fl.ds]
  refine an.ret ?_
  simp -implicitDefEqProofs only[↓reduceIte,go_sem,Nat.reduceLT]
 |true=>
 simp -implicitDefEqProofs only[↓reduceIte,go_sem,ab,aq,Nat.reduceAdd,Nat.reduceLT,Nat.reduceEqDiff,Fl.av,Fl.ds]
 refine ae.ok (hsm _) ?_
 by_cases hs:q.small 6
 case neg=>
  simp -implicitDefEqProofs only[↓reduceIte,go_sem,Nat.reduceLT,Nat.reduceEqDiff,reduceCtorEq,hs]
  refine an.ret ?_
  simp -implicitDefEqProofs only[↓reduceIte,go_sem,Nat.reduceLT]
 have hq:=hs.ok (by omega)
 have hok:=hfk rfl
 have hstr:=hfs rfl
 have hfl:f.projs.length≤3:=by rw[(hfm rfl).1];exact hf3
 clear hof hfk hfm hf3 hsm hfs
 have hle:=Aa f q hfl
 have hre:=fun H=>vy f hok H
 have hpl:=fun H=>wJ f hok q hq (by omega) H
 have hrp:=fun H=>nK f hok q hq H
 have hbe:=fun H=>rR (qx f hok q hq (by omega) H)
 have hrb:=fun H=>rR (xf f hok hstr q hq (by omega) H)
 have hsp:=wi f q (bJ f q)
 have hpd:=hq.pred
 have hord:∀x∈bJ f q,x.order.length≤100:=fun x hx=>by rw[je hx];omega
 generalize bJ f q=L at*
 generalize eF f q L=o at*
 have hbo:(G2 o).order.length≤100:=by
  cases o with
  |none=>simp[G2]
  |some x=>obtain⟨b,n⟩:=x;exact hord b hsp.1
 have hsb:=fun H=>np (G2 o) (G2 o) (by omega) H
 generalize G2 o=x at*
 generalize xu o=xn at*
 generalize (if o.isSome then(0:Int)else 6)=er at*
 clear hsp
 obtain⟨tb,htb⟩:∃tb,tb=ay.box 54 6 0 1 (t.ds.map .d):=⟨_,rfl⟩
 simp -implicitDefEqProofs only[↓reduceIte,go_sem,ab,Nat.reduceAdd,Nat.reduceLT,Nat.reduceEqDiff,reduceCtorEq,hs]
 refine ae.ok (by exact hre _) ?_
 simp -implicitDefEqProofs only[↓reduceIte,go_sem,ab,aq,Nat.reduceAdd,Nat.reduceLT,Nat.reduceEqDiff,Fl.av,Fl.ds]
 refine ae.ok (hpl _) ?_
 simp -implicitDefEqProofs only[↓reduceIte,go_sem,ab,Nat.reduceAdd,Nat.reduceLT,Nat.reduceEqDiff]
 refine ae.ok (by exact hrp _) ?_
 simp -implicitDefEqProofs only[↓reduceIte,go_sem,Nat.reduceLT,Nat.reduceEqDiff,List.length_map]
 refine aA (fun k s H'=>H'=H++[tb,qB q,fB f,.box 62 2 0 1 [.d (.list false (ints f.kinds)),.d (.list false (f.projs.map Pj.ds))]]∧s 3= .ptr (H.length+1) 0 0 0∧s 5=bA true∧s 6= .ptr (H.length+2) 0 0 0∧s 8= .ptr (H.length+3) 0 0 0∧s 9= .d (.list false (L.map Pl.ds))∧s 10= .d (.list false (L.map Pl.ds))∧s 11=iA k) L.length (by omega) (ak.refl _ _) ?_ ?_ ?_
 ·refine⟨by rw[htb];rfl,?_⟩
  simp -implicitDefEqProofs only[↓reduceIte,go_sem,Nat.reduceLT,Nat.reduceEqDiff]
 ·rintro k s H' hk hw ⟨rfl,t3,t5,t6,t8,t9,t10,t11⟩
  have hx:=EF hk
  have hsm:=fun H=>np L[k] L[k] (by have:=hord L[k] (List.getElem_mem hk);omega) H
  generalize L[k]=y at*
  simp -implicitDefEqProofs only[↓reduceIte,go_sem,Nat.reduceLT,Nat.reduceEqDiff,t9,t11,List.length_map,hk]
  refine aF K.mixed (by kernel_rfl) ?_
  simp -implicitDefEqProofs only[↓reduceIte,go_sem,Nat.reduceAdd,Nat.reduceLT,Nat.reduceEqDiff,t9,t10,t11,hx,Pl.ds]
  refine ae.ok (by exact hsm _) ?_
  simp -implicitDefEqProofs only[↓reduceIte,go_sem,Nat.reduceLT,Nat.reduceEqDiff,t11,decide_true]
  refine cl.same ⟨rfl,?_⟩
  simp -implicitDefEqProofs only[↓reduceIte,go_sem,Nat.reduceLT,Nat.reduceEqDiff,t3,t5,t6,t8,t9,t10,hw]
 ·rintro s H' ⟨rfl,t3,t5,t6,t8,t9,t10,t11⟩
  simp -implicitDefEqProofs only[↓reduceIte,go_sem,ab,Nat.reduceAdd,Nat.reduceLT,Nat.reduceEqDiff,t3,t6,t9,t11,Fl.ds,Qu.ds,List.length_map]
  refine ae.ok (by exact hbe _) ?_
  obtain⟨xj,xl,xo,xr,xg⟩:=x
  simp -implicitDefEqProofs only[↓reduceIte,go_sem,ab,aq,Nat.reduceAdd,Nat.reduceLT,Nat.reduceEqDiff,t3,t8,Qu.ds,Pl.av,Pl.ds]
  refine ae.ok (by exact hrb _) ?_
  simp -implicitDefEqProofs only[↓reduceIte,go_sem,aq,Nat.reduceAdd,Nat.reduceLT,Nat.reduceEqDiff,Pl.av,Pl.ds]
  obtain⟨hb1,hhb1⟩:∃hb1,hb1=ay.box 32 5 0 1 [iA xj,bA xl,.d (.list false (ints xo)),iA xr,bA xg]:=⟨_,rfl⟩
  refine aA (fun k s H'=>H'=H++[tb,qB q,fB f,.box 62 2 0 1 [.d (.list false (ints f.kinds)),.d (.list false (f.projs.map Pj.ds))],hb1,hb1]∧s 3= .ptr (H.length+1) 0 0 0∧s 5=bA true∧s 6= .ptr (H.length+2) 0 0 0∧s 8= .ptr (H.length+3) 0 0 0∧s 12= .ptr (H.length+4) 0 0 0∧s 13=du xn∧s 14=iA er∧s 15= .ptr (H.length+5) 0 0 0∧s 16=du xn∧s 17=iA er∧s 18=iA k) f.projs.length (by omega) (ak.refl _ _) ?_ ?_ ?_
  ·refine⟨by rw[hhb1],?_⟩
   simp -implicitDefEqProofs only[↓reduceIte,go_sem,Nat.reduceLT,Nat.reduceEqDiff,t3,t5,t6,t8]
  ·rintro k s H' hk hw ⟨rfl,t3,t5,t6,t8,t12,t13,t14,t15,t16,t17,t18⟩
   have hx:(f.projs.map Pj.ds)[k]?=some f.projs[k].ds:=by simp[hk]
   have hcv:=fun H=>nN f.projs[k] (hok.all _ (List.getElem_mem hk)).aC q hq H
   have hrc:=fun H=>me f.projs[k] (hok.all _ (List.getElem_mem hk)).aC q hq H
   generalize f.projs[k]=p at*
   generalize dq p q=c at*
   simp -implicitDefEqProofs only[↓reduceIte,go_sem,ab,Nat.reduceAdd,Nat.reduceLT,Nat.reduceEqDiff,t6,t18,Fl.ds,List.length_map,hk]
   refine aF K.mixed (by kernel_rfl) ?_
   simp -implicitDefEqProofs only[↓reduceIte,go_sem,ab,Nat.reduceAdd,Nat.reduceLT,Nat.reduceEqDiff,t3,t6,t18,Fl.ds,Qu.ds,hx,Pj.ds]
   refine ae.ok (by exact hcv _) ?_
   simp -implicitDefEqProofs only[↓reduceIte,go_sem,ab,Nat.reduceAdd,Nat.reduceLT,Nat.reduceEqDiff,t3,t8,t18,Qu.ds,hx,Pj.ds]
   refine ae.ok (by exact hrc _) ?_
   simp -implicitDefEqProofs only[↓reduceIte,go_sem,Nat.reduceLT,Nat.reduceEqDiff,t18,bne_self_eq_false]
   refine cl.same ⟨rfl,?_⟩
   simp -implicitDefEqProofs only[↓reduceIte,go_sem,Nat.reduceLT,Nat.reduceEqDiff,t3,t5,t6,t8,t12,t13,t14,t15,t16,t17,hw]
  ·rintro s H' ⟨rfl,t3,t5,t6,t8,t12,t13,t14,t15,t16,t17,t18⟩
   simp -implicitDefEqProofs only[↓reduceIte,go_sem,ab,Nat.reduceAdd,Nat.reduceLT,Nat.reduceEqDiff,t5,t6,t12,t15,t18,hhb1,Fl.ds,List.length_map]
   refine ae.ok (by exact hsb _) ?_
   simp -implicitDefEqProofs only[↓reduceIte,go_sem,Nat.reduceLT,Nat.reduceEqDiff,t13,t14,t16,t17,decide_true]
   refine an.ret ?_
   simp -implicitDefEqProofs only[↓reduceIte,go_sem,Nat.reduceLT]
theorem planAll_does(x0:AV)(h0:lL Tryz.prog 54 x0)(x1:AV)(h1:lL Tryz.prog 30 x1):ag Tryz.prog 4 [x0,x1] [] (.ok (.d (.v (.bool true)))) []:=by
 obtain⟨t,rfl,ht⟩:=D6 h0
 obtain⟨q,rfl⟩:=HF h1
 exact ti t ht q []
end Go.Proofs.YtggohfhfocgilaaGreat

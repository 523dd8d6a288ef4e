/- Contracts of functions and lemmas for planAll_holds, part 8. -/
import Derived.Recover
import Derived.Test.YtggohfhfocgilaaGreatM07
set_option maxHeartbeats 8000000
set_option maxRecDepth 100000
set_option linter.all false
namespace Go.Proofs.YtggohfhfocgilaaGreat
open Go.Proofs.YtggohfhfocgilaaGreatAw Go.RowKit
def oz(n:Nat):Nat:=dw (n-1)
theorem DG{n:Nat}(h:n≤4096):oz n≤12:=(eU _ 12).2 (by omega)
theorem CZ(n:Nat):gi [n]=dw n:=by simp[gi]
theorem vn(n:Nat)(hn:n≤1000000000000)(H:aa):ag Tryz.prog 232 [iA n] H (.ok (iA (oz n))) H:=by
 have hw:=fun H=>pX [n-1] true H (by simp) (by intro x hx;simp at hx;omega)
 rw[CZ]at hw
 have m:max (IntKind.i64.wrap ((n:Int)-1)) 0=((n-1:Nat):Int):=by rw[wrap64_in _ (by omega) (by omega)];omega
 have u:=c9 (n-1) (by omega)
 have hus:us [n-1]=[[.v (.int .u64 ((n-1:Nat):Int))]]:=rfl
 rw[hus]at hw
 unfold oz
 generalize ((n-1:Nat):Int)=q at*
 generalize dw (n-1)=r at*
 refine ag.ai (hint:=(fun _=>false)) Tryz.func232 (by kernel_rfl) rfl [2] (by kernel_rfl) (by decide) (by simp[Tryz.ntmps232]) ?_
 rw[Tryz.ntmps232]
 simp -implicitDefEqProofs only[↓reduceIte,go_sem,Nat.reduceLT,Nat.reduceLeDiff,reduceCtorEq,m,u,List.foldl_cons,List.foldl_nil]
 refine ae.ok (hw _) ?_
 simp -implicitDefEqProofs only[↓reduceIte,go_sem,Nat.reduceLT]
 refine an.aI ?_
 simp -implicitDefEqProofs only[↓reduceIte,go_sem,Nat.reduceLT]
def ca(W:List al):List Nat:=W.flatMap ib
theorem gr(W:List al)(v:al):ca (W++[v])=ca W++ib v:=by simp[ca]
def Cm(l:List al):List Nat:=cP (bV aO l).length++ca (bV aO l)++fR (l.map (nG l)) (oz (bV aO l).length)
def oI(l:List al)(k:Int):List Nat:=if bj l k=0 then Cm l else[]
theorem lC{l:List al}{k:Int}(h:bj l k=0):∀v∈l,fo v=true:=by
 unfold bj at h
 intro v hv
 by_cases h1:l.any (fun v=> !fo v)=true
 ·rw[if_pos h1]at h
  repeat' split at h
  all_goals omega
 ·have h2:l.any (fun v=> !fo v)=false:=by simpa using h1
  have:=List.any_eq_false.1 h2 v hv
  simpa using this
theorem Dm{l:List al}{a:al}(h:a∈l):nG l a<(bV aO l).length:=by
 obtain⟨i,y,h1,h2,_⟩:=nq h
 unfold nG
 rw[h1]
 have:=(List.getElem?_eq_some_iff.1 h2).1
 omega
theorem BA(l:List al):(bV aO l).length≤l.length:=by
 have h:=St.sG (eq:=fun a b=>decide (aO a b=0)) (St.aJ (tB aO) l)
 rwa[St.aW]at h
theorem Aq{l:List al}:∀n∈l.map (nG l),n<2^oz (bV aO l).length:=fun n hn=>by
 obtain⟨a,ha,rfl⟩:=List.mem_map.1 hn
 have h1:=Dm ha
 have h2:=(eU ((bV aO l).length-1) (oz (bV aO l).length)).1 (Nat.le_refl _)
 omega
theorem jT{v:al}(hi:-9223372036854775808≤v.i∧v.i≤9223372036854775807)(hm:fo v=true):(ib v).length≤1035:=by
 unfold ib
 have hz:=od hi.1 hi.2
 by_cases h1:v.kind=1
 ·rw[if_pos h1];have:=fa 10 (ka v.i) (by omega);omega
 rw[if_neg h1]
 by_cases h2:v.kind=2
 ·rw[if_pos h2,lO];omega
 rw[if_neg h2]
 by_cases h3:v.kind=3
 ·rw[if_pos h3]
  have hs:=tQ hm h3
  have:=fa 10 v.s.size (by omega)
  rw[tF,List.length_append,pG]
  omega
 ·rw[if_neg h3];simp
theorem oU(l:List al)(k:Int)(hok:∀v∈l,iJ v.i)(H:aa)(hl:l.length≤1000000000000):
  ag Tryz.prog 199 [.d (.list false (l.map al.enc)),iA k] H (.ok (.a7 [.d (.list false (dW (oI l k))),iA (bj l k)])) H:=by
 by_cases hp:bj l k=0
 ·have hd:oI l k=Cm l:=by unfold oI;rw[if_pos hp]
  have hmay:=lC hp
  have h4:=ja hp
  have hwl:=BA l
  have hW:∀w∈bV aO l,w∈l:=fun w hw=>Be eE hw
  have hcf:=Aq (l:=l)
  have hcd:=fun H=>xe (bV aO l) l false false H (by omega) (by omega)
  have hwd:=fun H=>yh l false H (by omega)
  rw[sr]at hcd
  have hB:Cm l=cP (bV aO l).length++ca (bV aO l)++fR (l.map (nG l)) (oz (bV aO l).length):=rfl
  have hcl:(l.map (nG l)).length=l.length:=by simp
  rw[hd,hp]
  generalize l.map (nG l)=C at*
  generalize bV aO l=W at*
  have hpk:=fR
  have hwid:=DG (n:=W.length) (by omega)
  have l1:=fa 10 W.length (by omega)
  have hWb:∀k,k≤W.length→(ca (W.take k)).length≤k* 1035:=by
   intro k
   induction k with
   |zero=>intro _;simp[ca]
   |succ k ih=>
    intro hk
    have hk':k<W.length:=by omega
    rw[List.take_succ_eq_append_getElem hk',gr,List.length_append]
    have h1:=ih (by omega)
    have hm:=hW _ (List.getElem_mem hk')
    have h2:=jT (hok _ hm) (hmay _ hm)
    omega
  refine ag.ai (hint:=(fun _=>false)) Tryz.func199 (by kernel_rfl) rfl [4,5] (by kernel_rfl) (by decide) (by simp[Tryz.ntmps199]) ?_
  rw[Tryz.ntmps199]
  simp -implicitDefEqProofs only[↓reduceIte,go_sem,Nat.reduceLT,Nat.reduceEqDiff,reduceCtorEq]
  refine ae.ok (dD l k false _ (by omega)) ?_
  rw[hp]
  simp -implicitDefEqProofs only[↓reduceIte,go_sem,Nat.reduceLT,reduceCtorEq]
  refine ae.ok (hwd _) ?_
  simp -implicitDefEqProofs only[↓reduceIte,go_sem,Nat.reduceLT,List.length_map,c9 W.length (by omega)]
  refine ae.ok (gO W.length (by omega) _) ?_
  simp -implicitDefEqProofs only[↓reduceIte,go_sem,Nat.reduceLT,Nat.reduceEqDiff,List.length_map]
  refine aU (fun j s H'=>∃ver,H'=H++[.arr 5 1 ver (dW (cP W.length++ca (W.take j)))]∧s 0= .d (.list false (l.map al.enc))∧s 7= .d (.list false (W.map al.enc))∧s 8= .sl H.length ver 0 (cP W.length++ca (W.take j)).length∧s 29= .d (.list false (W.map al.enc))∧s 30=iA W.length∧s 31=iA j) W.length (by omega) (ak.refl _ _) ?_ ?_ ?_
  ·refine⟨(cP W.length).length,?_,?_⟩
   ·rw[show ca (W.take 0)=[]from rfl,List.append_nil]
   ·rw[show ca (W.take 0)=[]from rfl,List.append_nil]
    simp -implicitDefEqProofs only[↓reduceIte,go_sem,Nat.reduceLT,Nat.reduceEqDiff,reduceCtorEq]
  ·rintro j s H' hj hw ⟨ver,rfl,t0,t7,t8,t29,t30,t31⟩
   have hx:=List.getElem?_eq_getElem hj
   have hm:=hW _ (List.getElem_mem hj)
   have hb:=hWb j (by omega)
   have hvl:=jT (hok _ hm) (hmay _ hm)
   have e1:cP W.length++ca (W.take (j+1))=(cP W.length++ca (W.take j))++ib W[j]:=by rw[List.take_succ_eq_append_getElem hj,gr,List.append_assoc]
   have hvd:=fun H=>gU W[j] (hok _ hm) (hmay _ hm) H
   rw[e1]
   have hBl:(cP W.length++ca (W.take j)).length≤11+j* 1035:=by rw[List.length_append];omega
   generalize cP W.length++ca (W.take j)=B at*
   generalize W[j]=w at*
   simp -implicitDefEqProofs only[↓reduceIte,go_sem,ab,aq,Nat.reduceAdd,Nat.reduceLT,Nat.reduceEqDiff,t29,t30,t31,hj,hx,al.enc]
   refine ae.ok (hvd _) ?_
   simp -implicitDefEqProofs only[↓reduceIte,go_sem,Nat.reduceLT,Nat.reduceEqDiff,t8,gD,bP,jb]
   refine⟨by omega,by omega,?_⟩
   simp -implicitDefEqProofs only[↓reduceIte,go_sem,Nat.reduceLT,t31]
   refine cl.cut [.arr 5 1 (ver+1) (dW (B++ib w))] [.box 100 3 0 1 [iA w.kind,iA w.i,sA w.s]] 1 rfl rfl (by simp -implicitDefEqProofs only[go_sem]) ?_
   refine⟨ver+1,rfl,?_⟩
   simp -implicitDefEqProofs only[↓reduceIte,go_sem,Nat.reduceLT,Nat.reduceEqDiff,reduceCtorEq,t0,t7,t29,t30,hw]
  ·rintro s H' ⟨ver,rfl,t0,t7,t8,t29,t30,t31⟩
   rw[show W.take W.length=W from List.take_length]at*
   have hb:=hWb W.length (Nat.le_refl _)
   rw[List.take_length]at hb
   have l3:(fR C (oz W.length)).length≤100000:=by
    rw[fR,iG,kv]
    have:C.length* oz W.length≤4096* 12:=Nat.mul_le_mul (by omega) hwid
    omega
   have l4:(cP W.length++ca W).length≤11+4096* 1035:=by rw[List.length_append];omega
   simp -implicitDefEqProofs only[↓reduceIte,go_sem,Nat.reduceLT,Nat.reduceEqDiff,reduceCtorEq,t0,t7,t30,t31]
   refine ae.ok (hcd _) ?_
   simp -implicitDefEqProofs only[↓reduceIte,go_sem,Nat.reduceLT,Nat.reduceEqDiff,t7,List.length_map]
   refine ae.ok (vn W.length (by omega) _) ?_
   simp -implicitDefEqProofs only[↓reduceIte,go_sem,Nat.reduceLT,Nat.reduceEqDiff]
   refine ae.ok (rG C (oz W.length) (by omega) hcf (by omega) false _) ?_
   rw[hB]
   generalize fR C (oz W.length)=Z at*
   generalize cP W.length++ca W=B at*
   simp -implicitDefEqProofs only[↓reduceIte,go_sem,Nat.reduceLT,Nat.reduceEqDiff,t8,gD,bP,jb]
   refine⟨by omega,by omega,an.ret ?_⟩
   have ht:(dW (B++Z)).take (B.length+Z.length)=dW (B++Z):=List.take_of_length_le (by rw[bP,List.length_append];omega)
   simp -implicitDefEqProofs only[↓reduceIte,go_sem,Nat.reduceLT,Nat.reduceEqDiff,ht]
 ·have hd:oI l k=[]:=by unfold oI;rw[if_neg hp]
  rw[hd]
  refine ag.kf (cs:=[.d (.v (.slice none 0 0)),iA (bj l k)]) ?_ (.cons .nil (.cons (.refl _) .nil))
  refine ag.ai (hint:=(fun _=>false)) Tryz.func199 (by kernel_rfl) rfl [4,5] (by kernel_rfl) (by decide) (by simp[Tryz.ntmps199]) ?_
  rw[Tryz.ntmps199]
  simp -implicitDefEqProofs only[↓reduceIte,go_sem,Nat.reduceLT,Nat.reduceEqDiff,reduceCtorEq]
  refine ae.ok (dD l k false _ (by omega)) ?_
  simp -implicitDefEqProofs only[↓reduceIte,go_sem,Nat.reduceLT,Nat.reduceEqDiff,hp]
  refine an.aI ?_
  simp -implicitDefEqProofs only[↓reduceIte,go_sem,Nat.reduceLT,Nat.reduceEqDiff]
end Go.Proofs.YtggohfhfocgilaaGreat
namespace Go.Proofs.YtggohfhfocgilaaGreatAw
open Go.RowKit
def HO(v:Value):FrameMode:= .panicking [{v:=v,recovered:=false}]
def J5(v:Value):FrameMode:= .panicking [{v:=v,recovered:=true}]
inductive Mode:FrameMode→Value→FrameMode→Prop
 |ret:Mode .returning .nilIface .returning
 |K0 (v:Value):Mode (HO v) v (J5 v)
def Fe(P:Program)(f:FuncId)(args:List AV)(H:aa)(u:FrameMode)(H':aa)(u':FrameMode):Prop:=
 ∀φ N w vals,Rel H φ N w→p8 H φ N w args vals→(callFunc f vals).run P w= .ok (.enter f vals) w∧
  CallsD P f vals u w fun e u1 w'=>(∃v,e= .returned v)∧u1=u'∧∃φ' N',Rel H' φ' N' w'∧au H φ N w H' φ' N' w'
theorem p8.since{H H':aa}{φ φ':aK}{N N':Addr→Prop}{w w':World}{args:List AV}{vals:Array Value}(h:p8 H φ N w args vals)(hR:Rel H φ N w)(hS:au H φ N w H' φ' N' w'):p8 H' φ' N' w' args vals:=
 ⟨h.1,fun i h1 h2=>(h.2 i h1 h2).since hR hS⟩
theorem Fe.ai{P:Program}{hint:Nat→Bool}{f:FuncId}{fn:Func}{id:Nat}{o0 o1:Oper}{rest:Code}{d0 d1:Tmp}(hf:P.funcs[f]?=some fn)(hn:(fn.name== "runtime.NumGoroutine")=false)(hb:fn.body=some (.seq (.region id #[o0,o1] false) rest))
  (h0:∃ats,o0.op= .call {callee:= .builtin .recover,args:=#[],argTypes:=ats}) (g0:o0.guard=none) (e0:o0.dst=some d0) (h1:o1.op= .assign (.tmp d0)) (g1:o1.guard=none) (e1:o1.dst=some d1) (hl:d0<fn.ntmps) (hr:fn.results=#[])
  {args:List AV} {H H':aa} {u u':FrameMode} {v:Value} (ha:args.length≤fn.ntmps) (hm:Mode u v u')
  (h:cE P hint fn.ntmps H rest (fun e s H1=>(match e with| .normal| .ret=>True|_=>False)∧∃s',ak H s H1 s' H') (bp fn.ntmps (bp fn.ntmps (jM args) (some d0) (bT v)) (some d1) (bT v)) H) (hmk:hint 2000000=false:=by rfl):Fe P f args H u H' u':=by
 intro φ N w vals hR hA
 refine⟨fH hf hn (by rw[hb];rfl) vals w,callsD_of_wpS hf hb fun c0 cs hc0=>wpS_seq (wpS_region ?_)⟩
 have hI:Inv H φ N w fn.ntmps ⟨false,[]⟩ (bp fn.ntmps (bp fn.ntmps (jM args) (some d0) (bT v)) (some d1) (bT v)) H φ N (({tmps:=vals++Array.replicate (fn.ntmps-vals.size) undef,defers:=[]}:Act).put (some d0) v|>.put (some d1) v) w:=by
  have h:Inv H φ N w fn.ntmps ⟨false,[]⟩ (jM args) H φ N {tmps:=vals++Array.replicate (fn.ntmps-vals.size) undef,defers:=[]} w:=
   ⟨hR,hA.init _,au.refl,by simp;have:=hA.1;omega,jk.refl⟩
  exact(h.put hR au.refl (dJ v) (some d0)).put hR au.refl (dJ v) (some d1)
 have hrec:∃cs',(match recoverD (c0::cs)with|some (x,cs')=>(x,cs')|none=>(Value.nilIface,c0::cs))=(v,cs')∧cs'={c0 with mode:=u'}::cs:=by
  subst hc0
  generalize hu:c0.mode=u at hm
  cases hm with
  |ret=>exact⟨c0::cs,by simp[recoverD,hu],by rw[←hu]⟩
  |K0 v=>exact⟨_,by simp[recoverD,hu,HO];rfl,rfl⟩
 obtain⟨cs',hrec,hcs⟩:=hrec
 have hwp:=Ga (fun e=>by rw[hmk]at e;cases e) hR rest _ hI h
 let R:Ending→FrameMode→World→Prop:=fun e u1 w'=>(∃v,e= .returned v)∧u1=u'∧∃φ' N',Rel H' φ' N' w'∧au H φ N w H' φ' N' w'
 have hS:Code.wpS P rest (bodyPostS P fn c0 cs R) ((({tmps:=vals++Array.replicate (fn.ntmps-vals.size) undef,defers:=[]}:Act).put (some d0) v).put (some d1) v) cs' w:=by
  refine wpS_of_wp (wp_mono hwp ?_)
  rintro e a' w' ⟨ax,s',H1,φ1,N1,rfl,⟨hq,s'',hW⟩,hI1⟩
  obtain⟨φ2,N2,hI2⟩:=hW.ok hR hI1
  have fin:a'.defers=[]∧∃u1,cs'={c0 with mode:=u1}::cs∧∃v,(results fn a'.tmps).run P w'= .ok v w'∧R (.returned v) u1 w':=
   ⟨hI2.defers.eq,u',hcs,_,j0 [] (by rw[hr];rfl) (by simp) _ _,⟨_,rfl⟩,rfl,φ2,N2,hI2.rel,hI2.since⟩
  cases ax with
  |normal=>exact fin
  |ret=>exact fin
  |exit i=>exact hq.elim
  |panic v=>exact hq.elim
 have tail:wpOpsS P #[o0,o1] (Exit.thenS (Code.wpS P rest (bodyPostS P fn c0 cs R)) (bodyPostS P fn c0 cs R)) [1]
   (({tmps:=vals++Array.replicate (fn.ntmps-vals.size) undef,defers:=[]}:Act).put (some d0) v) cs' w:=by
  have hev:(({tmps:=vals++Array.replicate (fn.ntmps-vals.size) undef,defers:=[]}:Act).put (some d0) v).eval (.tmp d0)=v:=by
   have:d0<vals.size+(fn.ntmps-vals.size):=Nat.lt_of_lt_of_le hl (by omega)
   simp[Act.eval,Act.put,this]
  have hx:(execOp (({tmps:=vals++Array.replicate (fn.ntmps-vals.size) undef,defers:=[]}:Act).put (some d0) v).eval o1).run P w= .ok (.value v) w:=by
   simp only[execOp,h1,hev];rfl
  have hw:Region.wanted o1 (yielded #[o0,o1] (({tmps:=vals++Array.replicate (fn.ntmps-vals.size) undef,defers:=[]}:Act).put (some d0) v).tmps)=true:=by simp[Region.wanted,g1]
  simp only[wpOpsS,List.getElem?_toArray,List.getElem?_cons_succ,List.getElem?_cons_zero,hw,if_true,hx,Oper.upon,e1]
  exact hS
 obtain⟨ats,h0⟩:=h0
 have hx:(execOp (({tmps:=vals++Array.replicate (fn.ntmps-vals.size) undef,defers:=[]}:Act)).eval o0).run P w= .ok .recover w:=by
  simp only[execOp,h0,resolve,invoke]
  rfl
 have hw:Region.wanted o0 (yielded #[o0,o1] (({tmps:=vals++Array.replicate (fn.ntmps-vals.size) undef,defers:=[]}:Act)).tmps)=true:=by simp[Region.wanted,g0]
 show wpOpsS P #[o0,o1] _ [0,1] _ _ _
 unfold wpOpsS
 simp only[List.getElem?_toArray,List.getElem?_cons_zero,hw,if_true,hx,e0]
 revert hrec
 cases recoverD (c0::cs)with
 |none=>
  intro hrec
  have e1:Value.nilIface=v:=congrArg Prod.fst hrec
  have e2:c0::cs=cs':=congrArg Prod.snd hrec
  simp only[e1,e2]
  exact tail
 |some p=>
  intro hrec
  have e1:p.1=v:=congrArg Prod.fst hrec
  have e2:p.2=cs':=congrArg Prod.snd hrec
  simp only[e1,e2]
  exact tail
end Go.Proofs.YtggohfhfocgilaaGreatAw
namespace Go.Proofs.YtggohfhfocgilaaGreat
open Go.Proofs.YtggohfhfocgilaaGreatAw Go.RowKit
def zV:al:=⟨0,0,jE⟩
def Fi(W:List al):Prop:=∀i x y,W[i]?=some x→W[i+1]?=some y→aO x y<0
noncomputable instance Fi.dec (W:List al):Decidable (Fi W):=Classical.propDecidable _
def oA(l:List al)(k:Int):List Nat:=if bj l k=0 then ca l else[]
theorem A5{l:List al}(hok:∀v∈l,iJ v.i)(hm:∀v∈l,fo v=true):∀k,k≤l.length→(ca (l.take k)).length≤k* 1035:=by
 intro k
 induction k with
 |zero=>intro _;simp[ca]
 |succ k ih=>
  intro hk
  have hk':k<l.length:=by omega
  rw[List.take_succ_eq_append_getElem hk',gr,List.length_append]
  have h1:=ih (by omega)
  have h2:=jT (hok _ (List.getElem_mem hk')) (hm _ (List.getElem_mem hk'))
  omega
theorem nT(l:List al)(k:Int)(hok:∀v∈l,iJ v.i)(H:aa)(hl:l.length≤1000000000000):
  ag Tryz.prog 191 [.d (.list false (l.map al.enc)),iA k] H (.ok (.a7 [.d (.list false (dW (oA l k))),iA (bj l k)])) H:=by
 by_cases hp:bj l k=0
 ·rw[show oA l k=ca l from if_pos hp]
  have hmay:=lC hp
  have h4:=ja hp
  have hWb:=A5 hok hmay
  refine ag.ai (hint:=(fun _=>false)) Tryz.func191 (by kernel_rfl) rfl [4,5] (by kernel_rfl) (by decide) (by simp[Tryz.ntmps191]) ?_
  rw[Tryz.ntmps191]
  simp -implicitDefEqProofs only[↓reduceIte,go_sem,Nat.reduceLT,Nat.reduceEqDiff,reduceCtorEq]
  refine ae.ok (dD l k false _ (by omega)) ?_
  rw[hp]
  simp -implicitDefEqProofs only[↓reduceIte,go_sem,Nat.reduceLT,reduceCtorEq]
  refine aU (fun j s H'=>∃ver,H'=H++[.arr 5 1 ver (dW (ca (l.take j)))]∧s 7= .sl H.length ver 0 (ca (l.take j)).length∧s 18= .d (.list false (l.map al.enc))∧s 19=iA l.length∧s 20=iA j) l.length (by omega) (ak.eg _ _ 7 5 1 (by decide) (by simp -implicitDefEqProofs only[↓reduceIte,go_sem,Nat.reduceLT,Nat.reduceEqDiff]) _) ?_ ?_ ?_
  ·refine⟨0,rfl,?_⟩
   simp -implicitDefEqProofs only[↓reduceIte,go_sem,Nat.reduceLT,Nat.reduceEqDiff]
   rfl
  ·rintro j s H' hj hw ⟨ver,rfl,t7,t18,t19,t20⟩
   have hx:=List.getElem?_eq_getElem hj
   have hm:=List.getElem_mem hj
   have hb:=hWb j (by omega)
   have hvl:=jT (hok _ hm) (hmay _ hm)
   have e1:ca (l.take (j+1))=ca (l.take j)++ib l[j]:=by rw[List.take_succ_eq_append_getElem hj,gr]
   have hvd:=fun H=>gU l[j] (hok _ hm) (hmay _ hm) H
   rw[e1]
   generalize ca (l.take j)=B at*
   generalize l[j]=w at*
   simp -implicitDefEqProofs only[↓reduceIte,go_sem,ab,aq,Nat.reduceAdd,Nat.reduceLT,Nat.reduceEqDiff,t18,t19,t20,hj,hx,al.enc]
   refine ae.ok (hvd _) ?_
   simp -implicitDefEqProofs only[↓reduceIte,go_sem,Nat.reduceLT,Nat.reduceEqDiff,t7,gD,bP,jb]
   refine⟨by omega,by omega,?_⟩
   simp -implicitDefEqProofs only[↓reduceIte,go_sem,Nat.reduceLT,t20]
   refine cl.cut [.arr 5 1 (ver+1) (dW (B++ib w))] [.box 100 3 0 1 [iA w.kind,iA w.i,sA w.s]] 1 rfl rfl (by simp -implicitDefEqProofs only[go_sem]) ?_
   refine⟨ver+1,rfl,?_⟩
   simp -implicitDefEqProofs only[↓reduceIte,go_sem,Nat.reduceLT,Nat.reduceEqDiff,t18,t19,hw]
  ·rintro s H' ⟨ver,rfl,t7,t18,t19,t20⟩
   rw[show l.take l.length=l from List.take_length]at*
   simp -implicitDefEqProofs only[↓reduceIte,go_sem,Nat.reduceLT,Nat.reduceEqDiff,t7,t19,t20]
   refine an.ret ?_
   simp -implicitDefEqProofs only[↓reduceIte,go_sem,Nat.reduceLT,Nat.reduceEqDiff,List.take_of_length_le (Nat.le_of_eq (bP (ca l)))]
 ·rw[show oA l k=[]from if_neg hp]
  refine ag.kf (cs:=[.d (.v (.slice none 0 0)),iA (bj l k)]) ?_ (.cons .nil (.cons (.refl _) .nil))
  refine ag.ai (hint:=(fun _=>false)) Tryz.func191 (by kernel_rfl) rfl [4,5] (by kernel_rfl) (by decide) (by simp[Tryz.ntmps191]) ?_
  rw[Tryz.ntmps191]
  simp -implicitDefEqProofs only[↓reduceIte,go_sem,Nat.reduceLT,Nat.reduceEqDiff,reduceCtorEq]
  refine ae.ok (dD l k false _ (by omega)) ?_
  simp -implicitDefEqProofs only[↓reduceIte,go_sem,Nat.reduceLT,Nat.reduceEqDiff,hp]
  refine an.aI ?_
  simp -implicitDefEqProofs only[↓reduceIte,go_sem,Nat.reduceLT,Nat.reduceEqDiff]
def kB(k:Int):ay:= .box 3 1 0 1 [iA k]
def jB(r:Nat×al):List D:=[.v (.int .i64 r.1),.v (.int .i64 r.2.kind),.v (.int .i64 r.2.i),.v (.string r.2.s)]
def Ar(r:Nat×al):AV:= .agg [iA r.1,iA r.2.kind,iA r.2.i,sA r.2.s]
def zR:Nat×al:=(0,zV)
def dL(R:List (Nat×al)):Nat×al:=R.getLast?.getD zR
def iH(R:List (Nat×al))(v:al):List (Nat×al):=if R≠[]∧(dL R).2=v then R.dropLast++[((dL R).1+1,v)]else R++[(1,v)]
def eG(l:List al):List (Nat×al):=l.foldl iH []
theorem ln(l:List al)(k:Nat)(h:k<l.length):eG (l.take (k+1))=iH (eG (l.take k)) l[k]:=by
 unfold eG
 rw[List.take_succ_eq_append_getElem h,List.foldl_append];rfl
theorem Cv(R:List (Nat×al))(v:al):(iH R v).length≤R.length+1:=by
 unfold iH
 split
 ·rw[List.length_append,List.length_dropLast,List.length_singleton];omega
 ·simp
theorem qR(l:List al):∀k,(eG (l.take k)).length≤k:=by
 intro k
 induction k with
 |zero=>simp[eG]
 |succ k ih=>
  rcases Nat.lt_or_ge k l.length with h|h
  ·rw[ln l k h]
   have:=Cv (eG (l.take k)) l[k]
   omega
  ·rw[List.take_of_length_le (by omega)]
   rw[List.take_of_length_le h]at ih
   omega
theorem Dk{R:List (Nat×al)}{k:Nat}(h:∀r∈R,r.1≤k)(v:al):∀r∈iH R v,r.1≤k+1:=by
 intro r hr
 unfold iH at hr
 split at hr
 ·rename_i hc
  rcases List.mem_append.1 hr with hr|hr
  ·have:=h r (List.dropLast_subset R hr);omega
  ·simp at hr
   have hm:dL R∈R:=by
    unfold dL
    rw[List.getLast?_eq_getElem?]
    have hp:0<R.length:=List.length_pos_iff.2 hc.1
    rw[List.getElem?_eq_getElem (by omega)]
    exact List.getElem_mem _
   have:=h _ hm
   rw[hr];simp only;omega
 ·rcases List.mem_append.1 hr with hr|hr
  ·have:=h r hr;omega
  ·simp at hr;rw[hr];simp
theorem qS(l:List al):∀k,∀r∈eG (l.take k),r.1≤k:=by
 intro k
 induction k with
 |zero=>intro r hr;simp[eG]at hr
 |succ k ih=>
  rcases Nat.lt_or_ge k l.length with h|h
  ·rw[ln l k h]
   exact Dk ih _
  ·rw[List.take_of_length_le (by omega)]
   rw[List.take_of_length_le h]at ih
   intro r hr
   have:=ih r hr;omega
theorem AN(R:List (Nat×al))(G:aa)(id ver:Nat)(hl:R.length≤1000000000000)(h:G[id]?=some (.arr 287 4 ver (R.map jB))):
  ag Tryz.prog 249 [.sl id ver 0 R.length] G (.ok (.a7 [Ar (dL R),bA (decide (R≠[]))])) G:=by
 have hlt:=aj h
 refine ag.cA (hint:=fun _=>false) Tryz.func249 (by kernel_rfl) rfl [.cell 2 287,.tmp 3] (by kernel_rfl) (by simp[Tryz.ntmps249]) ?_
 rw[Tryz.ntmps249]
 by_cases h0:R=[]
 ·subst h0
  simp only[List.length_nil,List.map_nil]at h⊢
  simp -implicitDefEqProofs only[↓reduceIte,go_sem,ab,aq,Nat.reduceAdd,Nat.reduceLT,Nat.reduceEqDiff,reduceCtorEq,h,List.getElem?_append_left hlt,List.length_nil]
  refine cV.ret ?_
  simp -implicitDefEqProofs only[↓reduceIte,go_sem,ab,Nat.reduceAdd,Nat.reduceLT,Nat.reduceLeDiff,Nat.reduceEqDiff,bH,cX,Ar,dL,zR,zV,jE,List.getLast?_nil,Option.getD_none]
 ·have hpos:0<R.length:=List.length_pos_iff.2 h0
  obtain⟨n,hn⟩:∃n,R.length=n+1:=⟨R.length-1,by omega⟩
  have hget:R[n]?=some (dL R):=by
   unfold dL
   rw[List.getLast?_eq_getElem?,hn,Nat.add_sub_cancel,List.getElem?_eq_getElem (by omega)]
   rfl
  generalize hm:R.length=m at*
  have hw:IntKind.i64.wrap ((m:Int)-1)=(n:Int):=by rw[wrap64_in _ (by omega) (by omega)];omega
  generalize dL R=q at*
  simp -implicitDefEqProofs only[↓reduceIte,go_sem,ab,aq,Nat.reduceAdd,Nat.reduceLT,Nat.reduceEqDiff,reduceCtorEq,h,List.getElem?_append_left hlt,hw,hget,show((m:Int)=0)=False from eq_false (by omega),show((n:Int)<(m:Int))=True from eq_true (by omega),show((0:Int)≤(n:Int))=True from eq_true (by omega),Option.map_some,jB,List.take_succ_cons,List.take_zero,List.map_cons,List.map_nil,List.length_cons,List.length_nil]
  refine cV.ret ?_
  simp -implicitDefEqProofs only[↓reduceIte,go_sem,ab,Nat.reduceAdd,Nat.reduceLT,Nat.reduceLeDiff,Nat.reduceEqDiff,bH,cX,Ar,h0,not_false_eq_true,decide_true]
theorem BP{R:List (Nat×al)}{v:al}(h:¬(R≠[]∧(dL R).2=v)):(iH R v).map jB=R.map jB++[[.v (.int .i64 1),.v (.int .i64 v.kind),.v (.int .i64 v.i),.v (.string v.s)]]:=by
 unfold iH
 rw[if_neg h]
 simp[jB]
theorem E2{R:List (Nat×al)}{v:al}{n:Nat}(h:R≠[]∧(dL R).2=v)(hn:R.length=n+1):R[n]?=some (dL R)∧
  (R.map jB).set n [.v (.int .i64 (((dL R).1+1:Nat):Int)),.v (.int .i64 v.kind),.v (.int .i64 v.i),.v (.string v.s)]=(iH R v).map jB∧(iH R v).length=n+1:=by
 have hg:R[n]?=some (dL R):=by
  unfold dL
  rw[List.getLast?_eq_getElem?,hn,Nat.add_sub_cancel,List.getElem?_eq_getElem (by omega)]
  rfl
 refine⟨hg,?_,?_⟩
 ·unfold iH
  rw[if_pos h]
  have hd:R=R.dropLast++[dL R]:=by
   rw[List.dropLast_eq_take,hn,Nat.add_sub_cancel]
   conv=>lhs;rw[←List.take_append_drop n R]
   obtain⟨h1,h2⟩:=List.getElem?_eq_some_iff.1 hg
   rw[List.drop_eq_getElem_cons h1,h2,List.drop_eq_nil_of_le (by omega)]
  have hl:R.dropLast.length=n:=by rw[List.length_dropLast,hn];rfl
  generalize dL R=q at*
  rw[List.map_append]
  generalize R.dropLast=D at*
  subst hd
  rw[List.map_append,List.set_append_right n _ (by rw[List.length_map,hl];exact Nat.le_refl _),List.length_map,hl,Nat.sub_self]
  rfl
 ·unfold iH
  rw[if_pos h,List.length_append,List.length_dropLast,hn];rfl
theorem zW(l:List al)(nn:Bool)(hl:l.length≤1000000000)(H:aa):
  ag Tryz.prog 226 [.d (.list nn (l.map al.enc))] H (.ok (.d (.list false ((eG l).map jB)))) H:=by
 have hlen:=qR l
 have hcnt:=qS l
 refine ag.ai (hint:=(fun _=>false)) Tryz.func226 (by kernel_rfl) rfl [2] (by kernel_rfl) (by decide) (by simp[Tryz.ntmps226]) ?_
 rw[Tryz.ntmps226]
 simp -implicitDefEqProofs only[↓reduceIte,go_sem,Nat.reduceLT,reduceCtorEq]
 refine aU (fun k s H'=>∃ver,H'=H++[.arr 287 4 ver ((eG (l.take k)).map jB)]∧s 3= .sl H.length ver 0 (eG (l.take k)).length∧s 8= .d (.list nn (l.map al.enc))∧s 9=iA l.length∧s 10=iA k) l.length (by omega) (ak.eg _ _ 3 287 4 (by decide) (by simp -implicitDefEqProofs only[↓reduceIte,go_sem,Nat.reduceLT,Nat.reduceEqDiff]) _) ?_ ?_ ?_
 ·refine⟨0,rfl,?_⟩
  simp -implicitDefEqProofs only[↓reduceIte,go_sem,Nat.reduceLT,Nat.reduceEqDiff]
  rfl
 ·rintro k s H' hk hw ⟨ver,rfl,t3,t8,t9,t10⟩
  have hx:=List.getElem?_eq_getElem hk
  have e1:=ln l k hk
  have hR:=hlen k
  have hC:=hcnt k
  rw[e1]
  generalize l[k]=v at*
  generalize eG (l.take k)=R at*
  have hld:=AN R (H++[.arr 287 4 ver (R.map jB),.box 100 3 0 1 [iA v.kind,iA v.i,sA v.s]]) H.length ver (by omega) (by simp)
  simp -implicitDefEqProofs only[↓reduceIte,go_sem,aq,Nat.reduceAdd,Nat.reduceLT,Nat.reduceEqDiff,t3,t8,t9,t10,hk,hx,al.enc]
  refine ae.ok hld ?_
  by_cases hc:R≠[]∧(dL R).2=v
  ·obtain⟨n,hn⟩:∃n,R.length=n+1:=⟨R.length-1,by have:=List.length_pos_iff.2 hc.1;omega⟩
   obtain⟨a1,a2,a3⟩:=E2 hc hn
   rw[a3]
   rw[hn]at t3
   have h1:=hc.1
   have h2:=hc.2
   generalize dL R=q at*
   obtain⟨m,w⟩:=q
   simp only at h2 a2
   subst h2
   have hm:=hC _ (List.mem_of_getElem? a1)
   simp only at hm
   have w1:IntKind.i64.wrap ((m:Int)+1)=((m+1:Nat):Int):=by rw[wrap64_in _ (by omega) (by omega)];rfl
   generalize hz:n+1=z at*
   have w2:IntKind.i64.wrap ((z:Int)-1)=(n:Int):=by rw[wrap64_in _ (by omega) (by omega)];omega
   generalize hy:((m+1:Nat):Int)=y at*
   generalize (iH R w).map jB=R2 at*
   simp -implicitDefEqProofs only[↓reduceIte,go_sem,ab,aq,Nat.reduceAdd,Nat.reduceLT,Nat.reduceLeDiff,Nat.reduceEqDiff,Ar,ne_eq,h1,not_false_eq_true,decide_true,ov,t3,hn,w2,show((n:Int)<(z:Int))=True from eq_true (by omega),show((0:Int)≤(n:Int))=True from eq_true (by omega),a1,Option.map_some,jB,List.take_succ_cons,List.take_zero,List.map_cons,List.map_nil,List.length_cons,List.length_nil,w1,List.drop_succ_cons,List.drop_zero,a2]
   simp -implicitDefEqProofs only[↓reduceIte,go_sem,Nat.reduceLT,t10]
   refine cl.cut [.arr 287 4 ver R2] [.box 100 3 0 1 [iA w.kind,iA w.i,sA w.s],.box 287 4 0 1 [iA m,iA w.kind,iA w.i,sA w.s]] 1 rfl rfl (by simp -implicitDefEqProofs only[go_sem]) ?_
   refine⟨ver,rfl,?_⟩
   simp -implicitDefEqProofs only[↓reduceIte,go_sem,Nat.reduceLT,Nat.reduceEqDiff,t3,t8,t9,hw]
  ·have a1:=BP hc
   have a2:(iH R v).length=R.length+1:=by unfold iH;rw[if_neg hc,List.length_append];rfl
   rw[a2]
   by_cases h1:R=[]
   ·subst h1
    generalize (iH [] v).map jB=R2 at*
    simp only[List.length_nil,List.map_nil,List.nil_append]at a1 t3⊢
    subst a1
    simp -implicitDefEqProofs only[↓reduceIte,go_sem,ab,aq,Nat.reduceAdd,Nat.reduceLT,Nat.reduceLeDiff,Nat.reduceEqDiff,reduceCtorEq,Ar,dL,zR,zV,jE,List.getLast?_nil,Option.getD_none,ne_eq,not_true_eq_false,decide_false,t3,List.length_nil]
    simp -implicitDefEqProofs only[↓reduceIte,go_sem,Nat.reduceLT,t10]
    refine cl.cut [.arr 287 4 (ver+1) [[.v (.int .i64 1),.v (.int .i64 v.kind),.v (.int .i64 v.i),.v (.string v.s)]]] [.box 100 3 0 1 [iA v.kind,iA v.i,sA v.s],.box 287 4 0 1 [iA 0,iA 0,iA 0,sA ⟨#[]⟩]] 1 rfl rfl (by simp -implicitDefEqProofs only[go_sem]) ?_
    refine⟨ver+1,rfl,?_⟩
    simp -implicitDefEqProofs only[↓reduceIte,go_sem,Nat.reduceLT,Nat.reduceEqDiff,t8,t9,hw]
   ·have h2:¬(dL R).2=v:=fun h=>hc ⟨h1,h⟩
    generalize dL R=q at*
    obtain⟨m,w⟩:=q
    simp only at h2
    generalize (iH R v).map jB=R2 at*
    subst a1
    simp -implicitDefEqProofs only[↓reduceIte,go_sem,ab,aq,Nat.reduceAdd,Nat.reduceLT,Nat.reduceLeDiff,Nat.reduceEqDiff,Ar,ne_eq,h1,not_false_eq_true,decide_true,ov,h2,decide_false,t3,List.length_map]
    refine⟨by omega,by omega,?_⟩
    simp -implicitDefEqProofs only[↓reduceIte,go_sem,Nat.reduceLT,t10]
    refine cl.cut [.arr 287 4 (ver+1) (R.map jB++[[.v (.int .i64 1),.v (.int .i64 v.kind),.v (.int .i64 v.i),.v (.string v.s)]])] [.box 100 3 0 1 [iA v.kind,iA v.i,sA v.s],.box 287 4 0 1 [iA m,iA w.kind,iA w.i,sA w.s]] 1 rfl rfl (by simp -implicitDefEqProofs only[go_sem]) ?_
    refine⟨ver+1,rfl,?_⟩
    simp -implicitDefEqProofs only[↓reduceIte,go_sem,Nat.reduceLT,Nat.reduceEqDiff,t8,t9,hw]
 ·rintro s H' ⟨ver,rfl,t3,t8,t9,t10⟩
  rw[List.take_length]at t3
  rw[List.take_length]
  simp -implicitDefEqProofs only[↓reduceIte,go_sem,Nat.reduceLT,Nat.reduceEqDiff,t3,t9,t10]
  refine an.ret ?_
  simp -implicitDefEqProofs only[↓reduceIte,go_sem,Nat.reduceLT,List.take_of_length_le (show((eG l).map jB).length≤(eG l).length by rw[List.length_map];exact Nat.le_refl _)]
theorem CX{R:List (Nat×al)}{p:al→Prop}(h:∀r∈R,p r.2){v:al}(hv:p v):∀r∈iH R v,p r.2:=by
 intro r hr
 unfold iH at hr
 split at hr
 ·rcases List.mem_append.1 hr with hr|hr
  ·exact h r (List.dropLast_subset R hr)
  ·simp at hr;rw[hr];exact hv
 ·rcases List.mem_append.1 hr with hr|hr
  ·exact h r hr
  ·simp at hr;rw[hr];exact hv
theorem qO{p:al→Prop}:∀(l:List al) (R:List (Nat×al)),(∀v∈l,p v)→(∀r∈R,p r.2)→∀r∈l.foldl iH R,p r.2
 |[],R,_,h=>h
 |v::l,R,hl,h=>qO l _ (fun x hx=>hl x (by simp[hx])) (CX h (hl v (by simp)))
theorem Bl{p:al→Prop}{l:List al}(h:∀v∈l,p v):∀r∈eG l,p r.2:=qO l [] h (by simp)
def BK(r:Nat×al):List Nat:=cP r.1++ib r.2
def m6(R:List (Nat×al)):List Nat:=R.flatMap BK
def B9(l:List al)(k:Int):List Nat:=if bj l k=0 then m6 (eG l)else[]
theorem qZ(R:List (Nat×al))(r:Nat×al):m6 (R++[r])=m6 R++BK r:=by simp[m6]
theorem qh(l:List al)(k:Int)(hok:∀v∈l,iJ v.i)(H:aa)(hl:l.length≤1000000000):
  ag Tryz.prog 195 [.d (.list false (l.map al.enc)),iA k] H (.ok (.a7 [.d (.list false (dW (B9 l k))),iA (bj l k)])) H:=by
 by_cases hp:bj l k=0
 ·rw[show B9 l k=m6 (eG l)from if_pos hp]
  have hmay:=lC hp
  have h4:=ja hp
  have hrd:=fun H=>zW l false hl H
  have hRl:=qR l l.length
  have hRc:=qS l l.length
  rw[List.take_length]at hRl hRc
  have hRv:=Bl (p:=fun v=>iJ v.i∧fo v=true) (l:=l) fun v hv=>⟨hok v hv,hmay v hv⟩
  generalize eG l=R at*
  have hone:∀r∈R,(BK r).length≤1050:=fun r hr=>by
   have h1:=fa 10 r.1 (by have:=hRc r hr;omega)
   have h2:=jT (hRv r hr).1 (hRv r hr).2
   unfold BK
   rw[List.length_append];omega
  have hWb:∀k,k≤R.length→(m6 (R.take k)).length≤k* 1050:=by
   intro k
   induction k with
   |zero=>intro _;simp[m6]
   |succ k ih=>
    intro hk
    have hk':k<R.length:=by omega
    rw[List.take_succ_eq_append_getElem hk',qZ,List.length_append]
    have h1:=ih (by omega)
    have h2:=hone _ (List.getElem_mem hk')
    omega
  refine ag.ai (hint:=(fun _=>false)) Tryz.func195 (by kernel_rfl) rfl [4,5] (by kernel_rfl) (by decide) (by simp[Tryz.ntmps195]) ?_
  rw[Tryz.ntmps195]
  simp -implicitDefEqProofs only[↓reduceIte,go_sem,Nat.reduceLT,Nat.reduceEqDiff,reduceCtorEq]
  refine ae.ok (dD l k false _ (by omega)) ?_
  rw[hp]
  simp -implicitDefEqProofs only[↓reduceIte,go_sem,Nat.reduceLT,reduceCtorEq]
  refine ae.ok (hrd _) ?_
  simp -implicitDefEqProofs only[↓reduceIte,go_sem,Nat.reduceLT]
  refine aU (fun j s H'=>∃ver,H'=H++[.arr 5 1 ver (dW (m6 (R.take j)))]∧s 7= .sl H.length ver 0 (m6 (R.take j)).length∧s 19= .d (.list false (R.map jB))∧s 20=iA R.length∧s 21=iA j) R.length (by omega) (ak.eg _ _ 7 5 1 (by decide) (by simp -implicitDefEqProofs only[↓reduceIte,go_sem,Nat.reduceLT,Nat.reduceEqDiff]) _) ?_ ?_ ?_
  ·refine⟨0,rfl,?_⟩
   simp -implicitDefEqProofs only[↓reduceIte,go_sem,Nat.reduceLT,Nat.reduceEqDiff]
   rfl
  ·rintro j s H' hj hw ⟨ver,rfl,t7,t19,t20,t21⟩
   have hx:=List.getElem?_eq_getElem hj
   have hm:=List.getElem_mem hj
   have hb:=hWb j (by omega)
   have hrl:=hone _ hm
   have hc:=hRc _ hm
   have hv:=hRv _ hm
   have e1:m6 (R.take (j+1))=m6 (R.take j)++(cP (R[j]).1++ib (R[j]).2):=by rw[List.take_succ_eq_append_getElem hj,qZ,BK]
   unfold BK at hrl
   rw[List.length_append]at hrl
   rw[e1]
   generalize m6 (R.take j)=B at*
   generalize R[j]=r at*
   obtain⟨m,w⟩:=r
   simp only at hrl hc hv⊢
   have hvd:=fun H=>gU w hv.1 hv.2 H
   have wm:=c9 m (by omega)
   simp -implicitDefEqProofs only[↓reduceIte,go_sem,ab,aq,Nat.reduceAdd,Nat.reduceLT,Nat.reduceEqDiff,t19,t20,t21,hj,hx,jB]
   refine ae.ok (hvd _) ?_
   simp -implicitDefEqProofs only[↓reduceIte,go_sem,ab,Nat.reduceAdd,Nat.reduceLT,Nat.reduceLeDiff,Nat.reduceEqDiff,t7,wm]
   refine ae.ok (pP m (by omega) _) ?_
   simp -implicitDefEqProofs only[↓reduceIte,go_sem,Nat.reduceLT,Nat.reduceEqDiff,gD,bP,jb]
   have hpm:=fa 10 m (by omega)
   refine⟨by omega,by omega,by omega,by omega,?_⟩
   simp -implicitDefEqProofs only[↓reduceIte,go_sem,Nat.reduceLT,t21]
   refine cl.cut [.arr 5 1 (ver+1+1) (dW (B++(cP m++ib w)))] [.box 287 4 0 1 [iA m,iA w.kind,iA w.i,sA w.s]] 1 rfl rfl (by simp -implicitDefEqProofs only[go_sem]) ?_
   refine⟨ver+1+1,rfl,?_⟩
   simp -implicitDefEqProofs only[↓reduceIte,go_sem,Nat.reduceAdd,Nat.reduceLT,Nat.reduceEqDiff,t19,t20,hw,Nat.add_assoc]
  ·rintro s H' ⟨ver,rfl,t7,t19,t20,t21⟩
   rw[show R.take R.length=R from List.take_length]at*
   simp -implicitDefEqProofs only[↓reduceIte,go_sem,Nat.reduceLT,Nat.reduceEqDiff,t7,t20,t21]
   refine an.ret ?_
   simp -implicitDefEqProofs only[↓reduceIte,go_sem,Nat.reduceLT,Nat.reduceEqDiff,List.take_of_length_le (Nat.le_of_eq (bP (m6 R)))]
 ·rw[show B9 l k=[]from if_neg hp]
  refine ag.kf (cs:=[.d (.v (.slice none 0 0)),iA (bj l k)]) ?_ (.cons .nil (.cons (.refl _) .nil))
  refine ag.ai (hint:=(fun _=>false)) Tryz.func195 (by kernel_rfl) rfl [4,5] (by kernel_rfl) (by decide) (by simp[Tryz.ntmps195]) ?_
  rw[Tryz.ntmps195]
  simp -implicitDefEqProofs only[↓reduceIte,go_sem,Nat.reduceLT,Nat.reduceEqDiff,reduceCtorEq]
  refine ae.ok (dD l k false _ (by omega)) ?_
  simp -implicitDefEqProofs only[↓reduceIte,go_sem,Nat.reduceLT,Nat.reduceEqDiff,hp]
  refine an.aI ?_
  simp -implicitDefEqProofs only[↓reduceIte,go_sem,Nat.reduceLT,Nat.reduceEqDiff]
def ll(id:Nat)(k:Int):List (Int×AV):=
 [(1,.agg [.fn 190 [.ptr id 0 0 0],.fn 192 [.ptr id 0 0 0]]),(2,.agg [.fn 194 [.ptr id 0 0 0],.fn 196 [.ptr id 0 0 0]]),(3,.agg [.fn 198 [.ptr id 0 0 0],.fn 200 [.ptr id 0 0 0]])]++
 if k=1 then[(4,.agg [.fn 202 [],.fn 203 []])]else[]
theorem fc(k:Int)(H:aa):ag Tryz.prog 160 [iA k] H (.ok (.mp (H.length+1))) (H++[kB k,.mp .i64 (ll H.length k)]):=by
 by_cases h:k=1
 ·subst h
  have hM:ll H.length 1=[(1,.agg [.fn 190 [.ptr H.length 0 0 0],.fn 192 [.ptr H.length 0 0 0]]),(2,.agg [.fn 194 [.ptr H.length 0 0 0],.fn 196 [.ptr H.length 0 0 0]]),(3,.agg [.fn 198 [.ptr H.length 0 0 0],.fn 200 [.ptr H.length 0 0 0]]),(4,.agg [.fn 202 [],.fn 203 []])]:=by unfold ll;rw[if_pos rfl];rfl
  rw[hM]
  refine ag.ai (hint:=(fun _=>false)) Tryz.func160 (by kernel_rfl) rfl [2] (by kernel_rfl) (by decide) (by simp[Tryz.ntmps160]) ?_
  rw[Tryz.ntmps160]
  simp -implicitDefEqProofs only[↓reduceIte,go_sem,ab,Nat.reduceAdd,Nat.reduceLT,Nat.reduceLeDiff,Nat.reduceEqDiff,Int.reduceEq,j6,fz]
  unfold kB
  exact⟨_,ak.refl _ _,by simp -implicitDefEqProofs only[↓reduceIte,go_sem,Nat.reduceLT]⟩
 ·have hM:ll H.length k=[(1,.agg [.fn 190 [.ptr H.length 0 0 0],.fn 192 [.ptr H.length 0 0 0]]),(2,.agg [.fn 194 [.ptr H.length 0 0 0],.fn 196 [.ptr H.length 0 0 0]]),(3,.agg [.fn 198 [.ptr H.length 0 0 0],.fn 200 [.ptr H.length 0 0 0]])]:=by unfold ll;rw[if_neg h];rfl
  rw[hM]
  refine ag.ai (hint:=(fun _=>false)) Tryz.func160 (by kernel_rfl) rfl [2] (by kernel_rfl) (by decide) (by simp[Tryz.ntmps160]) ?_
  rw[Tryz.ntmps160]
  simp -implicitDefEqProofs only[↓reduceIte,go_sem,ab,Nat.reduceAdd,Nat.reduceLT,Nat.reduceLeDiff,Nat.reduceEqDiff,Int.reduceEq,j6,fz,h]
  unfold kB
  exact⟨_,ak.refl _ _,by simp -implicitDefEqProofs only[↓reduceIte,go_sem,Nat.reduceLT]⟩
theorem qD(l:List al)(k:Int)(hok:∀v∈l,iJ v.i)(hl:l.length≤1000000000)(G:aa)(id:Nat)(h:G[id]?=some (kB k)):
  ag Tryz.prog 190 [.d (.list false (l.map al.enc)),.ptr id 0 0 0] G (.ok (.a7 [.d (.list false (dW (oA l k))),iA (bj l k)])) G:=by
 have hd:=fun H=>nT l k hok H (by omega)
 unfold kB at h
 refine ag.ai (hint:=(fun _=>false)) Tryz.func190 (by kernel_rfl) rfl [3,4] (by kernel_rfl) (by decide) (by simp[Tryz.ntmps190]) ?_
 rw[Tryz.ntmps190]
 simp -implicitDefEqProofs only[↓reduceIte,go_sem,ab,Nat.reduceLT,Nat.reduceEqDiff,reduceCtorEq,h]
 refine ae.ok (hd _) ?_
 simp -implicitDefEqProofs only[↓reduceIte,go_sem,Nat.reduceLT,Nat.reduceEqDiff]
 refine an.aI ?_
 simp -implicitDefEqProofs only[↓reduceIte,go_sem,Nat.reduceLT,Nat.reduceEqDiff]
theorem s9(l:List al)(k:Int)(hok:∀v∈l,iJ v.i)(hl:l.length≤1000000000)(G:aa)(id:Nat)(h:G[id]?=some (kB k)):
  ag Tryz.prog 198 [.d (.list false (l.map al.enc)),.ptr id 0 0 0] G (.ok (.a7 [.d (.list false (dW (oI l k))),iA (bj l k)])) G:=by
 have hd:=fun H=>oU l k hok H (by omega)
 unfold kB at h
 refine ag.ai (hint:=(fun _=>false)) Tryz.func198 (by kernel_rfl) rfl [3,4] (by kernel_rfl) (by decide) (by simp[Tryz.ntmps198]) ?_
 rw[Tryz.ntmps198]
 simp -implicitDefEqProofs only[↓reduceIte,go_sem,ab,Nat.reduceLT,Nat.reduceEqDiff,reduceCtorEq,h]
 refine ae.ok (hd _) ?_
 simp -implicitDefEqProofs only[↓reduceIte,go_sem,Nat.reduceLT,Nat.reduceEqDiff]
 refine an.aI ?_
 simp -implicitDefEqProofs only[↓reduceIte,go_sem,Nat.reduceLT,Nat.reduceEqDiff]
theorem uG(l:List al)(k:Int)(hok:∀v∈l,iJ v.i)(hl:l.length≤1000000000)(G:aa)(id:Nat)(h:G[id]?=some (kB k)):
  ag Tryz.prog 194 [.d (.list false (l.map al.enc)),.ptr id 0 0 0] G (.ok (.a7 [.d (.list false (dW (B9 l k))),iA (bj l k)])) G:=by
 have hd:=fun H=>qh l k hok H (by omega)
 unfold kB at h
 refine ag.ai (hint:=(fun _=>false)) Tryz.func194 (by kernel_rfl) rfl [3,4] (by kernel_rfl) (by decide) (by simp[Tryz.ntmps194]) ?_
 rw[Tryz.ntmps194]
 simp -implicitDefEqProofs only[↓reduceIte,go_sem,ab,Nat.reduceLT,Nat.reduceEqDiff,reduceCtorEq,h]
 refine ae.ok (hd _) ?_
 simp -implicitDefEqProofs only[↓reduceIte,go_sem,Nat.reduceLT,Nat.reduceEqDiff]
 refine an.aI ?_
 simp -implicitDefEqProofs only[↓reduceIte,go_sem,Nat.reduceLT,Nat.reduceEqDiff]
def zq(a b:al):Nat:=ka (IntKind.i64.wrap (b.i-a.i))
def dc(l:List al):List Nat:=List.zipWith zq l l.tail
theorem k9(l:List al):(dc l).length=l.length-1:=by simp[dc]
theorem pT(l:List al)(k:Nat)(h:k+1<l.length):(dc l)[k]?=some (zq l[k] l[k+1]):=by
 simp[dc,List.getElem?_zipWith,List.getElem?_tail,h,show k<l.length by omega]
theorem CD(a b:al):zq a b<18446744073709551616:=od (iY _).1 (iY _).2
theorem Bd(l:List al):∀n∈dc l,n<18446744073709551616:=by
 intro n hn
 obtain⟨k,hk⟩:=List.getElem?_of_mem hn
 have hlt:=(List.getElem?_eq_some_iff.1 hk).1
 rw[k9]at hlt
 rw[pT l k (by omega)]at hk
 cases hk
 exact CD _ _
theorem xB(l:List al)(k:Nat)(h:k+1<l.length):(dc l).take (k+1)=(dc l).take k++[zq l[k] l[k+1]]:=by
 rw[List.take_add_one,pT l k h];rfl
theorem yR(l:List al)(nn:Bool)(H:aa)(hl:l.length≤1000000000000):ag Tryz.prog 234 [.d (.list nn (l.map al.enc))] H (.ok (.d (.list false (us (dc l))))) H:=by
 have hsl:=k9 l
 refine ag.ai (hint:=(fun _=>false)) Tryz.func234 (by kernel_rfl) rfl [2] (by kernel_rfl) (by decide) (by simp[Tryz.ntmps234]) ?_
 rw[Tryz.ntmps234]
 simp -implicitDefEqProofs only[go_sem]
 refine aA (fun k s H'=>H'=H++[.arr 40 1 k (us ((dc l).take k))]∧s 0= .d (.list nn (l.map al.enc))∧s 3= .sl H.length k 0 k∧s 4=iA ((k:Int)+1)) (l.length-1) (by omega) (ak.eg _ _ 3 40 1 (by decide) (by simp -implicitDefEqProofs only[↓reduceIte,go_sem,Nat.reduceLT,Nat.reduceEqDiff]) _) ?_ ?_ ?_
 ·refine⟨?_,?_⟩
  ·simp -implicitDefEqProofs only[go_sem,List.take_zero,Gv]
  ·simp -implicitDefEqProofs only[↓reduceIte,go_sem,Nat.reduceLT,Nat.reduceEqDiff,Int.reduceAdd,reduceCtorEq]
 ·rintro k s H' hk hw ⟨rfl,t0,t3,t4⟩
  have hk1:k<l.length:=by omega
  have hk2:k+1<l.length:=by omega
  have hx:=List.getElem?_eq_getElem hk1
  have hy:=List.getElem?_eq_getElem hk2
  have hs:=xB l k hk2
  generalize l[k]=x at hx hs
  generalize l[k+1]=y at hy hs
  have hlen:((dc l).take k).length=k:=by simp;omega
  have hw2:IntKind.i64.wrap ((k:Int)+1-1)=(k:Int):=by rw[wrap64_in _ (by omega) (by omega)];omega
  have hw3:IntKind.i64.wrap ((k:Int)+1+1)=(k:Int)+1+1:=wrap64_in _ (by omega) (by omega)
  have hc:((k:Int)+1<(l.length:Int))=True:=eq_true (by omega)
  have ht:((k:Int)+1).toNat=k+1:=by omega
  have hp:(0≤(k:Int)+1)=True:=eq_true (by omega)
  generalize (dc l).take k=L at hs hlen
  simp -implicitDefEqProofs only[↓reduceIte,go_sem,Nat.reduceLT,Nat.reduceEqDiff,reduceCtorEq,t0,t4,hc]
  refine iF 15 K.mixed (by kernel_rfl) (by kernel_rfl) ?_
  simp -implicitDefEqProofs only[↓reduceIte,go_sem,Nat.reduceAdd,Nat.reduceLT,Nat.reduceLeDiff,Nat.reduceEqDiff,reduceCtorEq,t0,t3,t4,hw2,hx,hy,ht,hp,al.enc]
  refine ae.ok (oH _ (iY _).1 (iY _).2 _) ?_
  simp -implicitDefEqProofs only[↓reduceIte,go_sem,Nat.reduceLT,Nat.reduceLeDiff,Nat.reduceEqDiff,mW,hlen,t4,zp]
  refine⟨by omega,by omega,cl.same ⟨?_,?_⟩⟩
  ·rw[hs];rfl
  ·simp -implicitDefEqProofs only[↓reduceIte,go_sem,Nat.reduceLT,Nat.reduceEqDiff,reduceCtorEq,t0,hw3]
   trace_state
 ·rintro s H' ⟨rfl,t0,t3,t4⟩
  have hc:(((l.length-1:Nat):Int)+1<(l.length:Int))=False:=eq_false (by omega)
  simp -implicitDefEqProofs only[↓reduceIte,go_sem,Nat.reduceLT,Nat.reduceEqDiff,reduceCtorEq,t0,t3,t4,hc]
  refine an.ret ?_
  simp -implicitDefEqProofs only[↓reduceIte,go_sem,Nat.reduceLT,b8,mW,hsl]
def xk(l:List al):List Nat:=match l with
 |[]=>[]
 |v::_=>cP (ka v.i)++cP (gi (dc l))++fR (dc l) (gi (dc l))
def pH(l:List al):AV:=if bj l 1=0∧l≠[]then .a7 [.d (.list false (dW (xk l))),iA 0]else .a7 [.d (.v (.slice none 0 0)),iA (bj l 1)]
theorem wc(l:List al)(hok:∀v∈l,iJ v.i)(nn:Bool)(H:aa)(hl:l.length≤1000000000000):ag Tryz.prog 202 [.d (.list nn (l.map al.enc))] H (.ok (pH l)) H:=by
 have hbad:∀b:Bool,b=true∨b=false:=by decide
 refine ag.ai (hint:=(fun _=>false)) Tryz.func202 (by kernel_rfl) rfl [2,3] (by kernel_rfl) (by decide) (by simp[Tryz.ntmps202]) ?_
 rw[Tryz.ntmps202]
 simp -implicitDefEqProofs only[↓reduceIte,go_sem,Nat.reduceLT,reduceCtorEq]
 refine ae.ok (dD l 1 nn _ (by omega)) ?_
 by_cases h1:bj l 1=0
 ·cases l with
  |nil=>
   simp -implicitDefEqProofs only[↓reduceIte,go_sem,Nat.reduceLT,Nat.reduceEqDiff,reduceCtorEq,h1]
   refine an.aI ?_
   simp -implicitDefEqProofs only[↓reduceIte,go_sem,Nat.reduceLT,Nat.reduceEqDiff,pH,h1,Ne,not_true,and_false]
  |cons v r=>
   have hs:=k9 (v::r)
   have h4:=ja h1
   have hl0:(((v::r).length:Nat):Int)=0↔False:=by simp;omega
   have hll:=hok v (by simp)
   have hss:=Bd (v::r)
   simp -implicitDefEqProofs only[↓reduceIte,go_sem,Nat.reduceLT,Nat.reduceEqDiff,reduceCtorEq,h1,show(((r.length:Nat):Int)+1=0)=False from eq_false (by omega)]
   refine ae.ok (yR (v::r) nn _ hl) ?_
   simp -implicitDefEqProofs only[↓reduceIte,go_sem,Nat.reduceLT]
   refine ae.ok (pX _ false _ (by omega) hss) ?_
   have hw64:=Bk hss
   have hfit:=vY (l:=dc (v::r))
   have hzl:=od hll.1 hll.2
   have hb:xk (v::r)=cP (ka v.i)++cP (gi (dc (v::r)))++fR (dc (v::r)) (gi (dc (v::r))):=rfl
   generalize gi (dc (v::r))=w at*
   generalize dc (v::r)=S at*
   simp -implicitDefEqProofs only[↓reduceIte,go_sem,Nat.reduceAdd,Nat.reduceLT,Nat.reduceLeDiff,Int.reduceLE,Int.reduceToNat,reduceCtorEq,al.enc]
   refine ae.ok (oH _ hll.1 hll.2 _) ?_
   simp -implicitDefEqProofs only[↓reduceIte,go_sem,Nat.reduceLT]
   refine ae.ok (gO _ hzl _) ?_
   simp -implicitDefEqProofs only[↓reduceIte,go_sem,Nat.reduceLT,Nat.reduceEqDiff,c9 w (by omega)]
   refine ae.ok (pP w (by omega) _) ?_
   have l1:=fa 10 (ka v.i) (by omega)
   have l2:=fa 10 w (by omega)
   simp -implicitDefEqProofs only[↓reduceIte,go_sem,Nat.reduceLT,Nat.reduceEqDiff,gD,bP,jb]
   refine⟨by omega,by omega,?_⟩
   refine ae.ok (rG S w hw64 hfit (by omega) false _) ?_
   simp -implicitDefEqProofs only[↓reduceIte,go_sem,Nat.reduceLT,Nat.reduceEqDiff,gD,bP,jb,List.length_append]
   have l3:(fR S w).length≤100000:=by
    rw[fR,iG,kv]
    have:S.length* w≤4096* 64:=Nat.mul_le_mul (by omega) hw64
    omega
   refine⟨by omega,by omega,an.ret ?_⟩
   have ht:(dW (cP (ka v.i)++(cP w++fR S w))).take ((cP (ka v.i)).length+(cP w).length+(fR S w).length)=dW (cP (ka v.i)++(cP w++fR S w)):=b8 _ _ (by rw[bP,List.length_append,List.length_append];omega)
   simp -implicitDefEqProofs only[↓reduceIte,go_sem,Nat.reduceLT,Nat.reduceEqDiff,reduceCtorEq,pH,h1,hb,ht,Ne,not_false_eq_true,and_self]
 ·simp -implicitDefEqProofs only[↓reduceIte,go_sem,Nat.reduceLT,Nat.reduceEqDiff,h1]
  refine an.aI ?_
  simp -implicitDefEqProofs only[↓reduceIte,go_sem,Nat.reduceLT,Nat.reduceEqDiff,pH,h1,false_and]
def yd(l:List al):List Nat:=if bj l 1=0∧l≠[]then xk l else[]
def jH(l:List al)(k w:Int):List Nat×Int:=
 if w=1 then(oA l k,bj l k)else if w=2 then(B9 l k,bj l k)else if w=3 then(oI l k,bj l k)
 else if w=4∧k=1 then(yd l,bj l 1)else([],1)
theorem sq(l:List al)(hok:∀v∈l,iJ v.i)(nn:Bool)(H:aa)(hl:l.length≤1000000000000):ag Tryz.prog 202 [.d (.list nn (l.map al.enc))] H (.ok (.a7 [.d (.list false (dW (yd l))),iA (bj l 1)])) H:=by
 have h:=wc l hok nn H hl
 unfold pH at h
 unfold yd
 by_cases c:bj l 1=0∧l≠[]
 ·rw[if_pos c]at h⊢
  rw[c.1]
  exact h
 ·rw[if_neg c]at h⊢
  exact ag.kf h (.cons .nil (.cons (.refl _) .nil))
def yy(id:Nat)(k w:Int):Option AV:=
 if w=1 then some (.agg [.fn 190 [.ptr id 0 0 0],.fn 192 [.ptr id 0 0 0]])
 else if w=2 then some (.agg [.fn 194 [.ptr id 0 0 0],.fn 196 [.ptr id 0 0 0]])
 else if w=3 then some (.agg [.fn 198 [.ptr id 0 0 0],.fn 200 [.ptr id 0 0 0]])
 else if w=4∧k=1 then some (.agg [.fn 202 [],.fn 203 []])else none
theorem xZ(id:Nat)(k w:Int):ed w (ll id k)=yy id k w:=by
 unfold ll yy
 by_cases h1:w=1
 ·subst h1;rfl
 by_cases h2:w=2
 ·subst h2;rfl
 by_cases h3:w=3
 ·subst h3;rfl
 rw[if_neg h1,if_neg h2,if_neg h3]
 by_cases hk:k=1
 ·subst hk
  by_cases h4:w=4
  ·subst h4;rfl
  ·simp[ed,fz,h1,h2,h3,h4]
 ·rw[if_neg hk,if_neg (fun h=>hk h.2)]
  simp[ed,fz,h1,h2,h3]
theorem rK(l:List al)(k w:Int)(hok:∀v∈l,iJ v.i)(hl:l.length≤1000000000)(H:aa):
  ag Tryz.prog 126 [.d (.list false (l.map al.enc)),iA k,iA w] H (.ok (.a7 [.d (.list false (dW (jH l k w).1)),iA (jH l k w).2])) H:=by
 have hg:=fun id=>xZ id k w
 unfold yy at hg
 unfold jH
 have hk:∀T:aa,((H++kB k::T):aa)[H.length]?=some (kB k):=fun T=>by simp
 by_cases h1:w=1
 ·subst h1
  simp only[if_true]at hg⊢
  refine ag.ai (hint:=(fun _=>false)) Tryz.func126 (by kernel_rfl) rfl [6,7] (by kernel_rfl) (by decide) (by simp[Tryz.ntmps126]) ?_
  rw[Tryz.ntmps126]
  simp -implicitDefEqProofs only[↓reduceIte,go_sem,Nat.reduceLT,Nat.reduceEqDiff]
  refine ae.ok (fc k _) ?_
  simp -implicitDefEqProofs only[↓reduceIte,go_sem,ab,aq,Nat.reduceAdd,Nat.reduceLT,Nat.reduceLeDiff,Nat.reduceEqDiff,reduceCtorEq,hg,Option.getD_some,Option.isSome_some]
  refine ae.ok (qD l k hok hl _ H.length (hk _)) ?_
  simp -implicitDefEqProofs only[↓reduceIte,go_sem,Nat.reduceLT,Nat.reduceEqDiff]
  refine an.ret ?_
  simp -implicitDefEqProofs only[↓reduceIte,go_sem,Nat.reduceLT,Nat.reduceEqDiff]
 rw[if_neg h1]at⊢
 simp only[if_neg h1]at hg
 by_cases h2:w=2
 ·subst h2
  simp only[if_true]at hg⊢
  refine ag.ai (hint:=(fun _=>false)) Tryz.func126 (by kernel_rfl) rfl [6,7] (by kernel_rfl) (by decide) (by simp[Tryz.ntmps126]) ?_
  rw[Tryz.ntmps126]
  simp -implicitDefEqProofs only[↓reduceIte,go_sem,Nat.reduceLT,Nat.reduceEqDiff]
  refine ae.ok (fc k _) ?_
  simp -implicitDefEqProofs only[↓reduceIte,go_sem,ab,aq,Nat.reduceAdd,Nat.reduceLT,Nat.reduceLeDiff,Nat.reduceEqDiff,reduceCtorEq,hg,Option.getD_some,Option.isSome_some]
  refine ae.ok (uG l k hok hl _ H.length (hk _)) ?_
  simp -implicitDefEqProofs only[↓reduceIte,go_sem,Nat.reduceLT,Nat.reduceEqDiff]
  refine an.ret ?_
  simp -implicitDefEqProofs only[↓reduceIte,go_sem,Nat.reduceLT,Nat.reduceEqDiff]
 rw[if_neg h2]at⊢
 simp only[if_neg h2]at hg
 by_cases h3:w=3
 ·subst h3
  simp only[if_true]at hg⊢
  refine ag.ai (hint:=(fun _=>false)) Tryz.func126 (by kernel_rfl) rfl [6,7] (by kernel_rfl) (by decide) (by simp[Tryz.ntmps126]) ?_
  rw[Tryz.ntmps126]
  simp -implicitDefEqProofs only[↓reduceIte,go_sem,Nat.reduceLT,Nat.reduceEqDiff]
  refine ae.ok (fc k _) ?_
  simp -implicitDefEqProofs only[↓reduceIte,go_sem,ab,aq,Nat.reduceAdd,Nat.reduceLT,Nat.reduceLeDiff,Nat.reduceEqDiff,reduceCtorEq,hg,Option.getD_some,Option.isSome_some]
  refine ae.ok (s9 l k hok hl _ H.length (hk _)) ?_
  simp -implicitDefEqProofs only[↓reduceIte,go_sem,Nat.reduceLT,Nat.reduceEqDiff]
  refine an.ret ?_
  simp -implicitDefEqProofs only[↓reduceIte,go_sem,Nat.reduceLT,Nat.reduceEqDiff]
 rw[if_neg h3]at⊢
 simp only[if_neg h3]at hg
 by_cases h4:w=4∧k=1
 ·simp only[if_pos h4]at hg⊢
  refine ag.ai (hint:=(fun _=>false)) Tryz.func126 (by kernel_rfl) rfl [6,7] (by kernel_rfl) (by decide) (by simp[Tryz.ntmps126]) ?_
  rw[Tryz.ntmps126]
  simp -implicitDefEqProofs only[↓reduceIte,go_sem,Nat.reduceLT,Nat.reduceEqDiff]
  refine ae.ok (fc k _) ?_
  simp -implicitDefEqProofs only[↓reduceIte,go_sem,ab,aq,Nat.reduceAdd,Nat.reduceLT,Nat.reduceLeDiff,Nat.reduceEqDiff,reduceCtorEq,hg,Option.getD_some,Option.isSome_some]
  refine ae.ok (sq l hok false _ (by omega)) ?_
  simp -implicitDefEqProofs only[↓reduceIte,go_sem,Nat.reduceLT,Nat.reduceEqDiff]
  refine an.ret ?_
  simp -implicitDefEqProofs only[↓reduceIte,go_sem,Nat.reduceLT,Nat.reduceEqDiff]
 simp only[if_neg h4]at hg⊢
 refine ag.kf (cs:=[.d (.v (.slice none 0 0)),iA 1]) ?_ (.cons .nil (.cons (.refl _) .nil))
 refine ag.ai (hint:=(fun _=>false)) Tryz.func126 (by kernel_rfl) rfl [6,7] (by kernel_rfl) (by decide) (by simp[Tryz.ntmps126]) ?_
 rw[Tryz.ntmps126]
 simp -implicitDefEqProofs only[↓reduceIte,go_sem,Nat.reduceLT,Nat.reduceEqDiff]
 refine ae.ok (fc k _) ?_
 simp -implicitDefEqProofs only[↓reduceIte,go_sem,aq,Nat.reduceAdd,Nat.reduceLT,Nat.reduceEqDiff,hg,Option.getD_none,Option.isSome_none]
 refine an.ret ?_
 simp -implicitDefEqProofs only[↓reduceIte,go_sem,Nat.reduceLT,Nat.reduceEqDiff]
def Ct(l:List al)(k:Int)(x:Int×Int)(c:Int):Int×Int:=if(jH l k c).2=0∧(x.1<0∨((jH l k c).1.length:Int)<x.1)then((jH l k c).1.length,c)else x
def oO(l:List al)(k:Int):Nat→Int×Int
 |0=>(-1,0)
 |n+1=>Ct l k (oO l k n) ((n:Int)+1)
def vP(l:List al)(k:Int):Int:=(oO l k 4).2
theorem zX(l:List al)(k:Int)(hok:∀v∈l,iJ v.i)(hl:l.length≤1000000000)(H:aa):
  ag Tryz.prog 125 [.d (.list false (l.map al.enc)),iA k] H (.ok (iA (vP l k))) H:=by
 have hb:=fun w H=>rK l k w hok hl H
 have hst:∀n,oO l k (n+1)=Ct l k (oO l k n) ((n:Int)+1):=fun n=>rfl
 have hfin:vP l k=(oO l k 4).2:=rfl
 rw[hfin]
 have h0:oO l k 0=(-1,0):=rfl
 generalize oO l k=st at*
 refine ag.ai (hint:=(fun _=>false)) Tryz.func125 (by kernel_rfl) rfl [4] (by kernel_rfl) (by decide) (by simp[Tryz.ntmps125]) ?_
 rw[Tryz.ntmps125]
 simp -implicitDefEqProofs only[go_sem,Int.reduceNeg]
 refine bu _ _ _ _ (fun(n:Nat) s H'=>H'=H∧n≤4∧s 0= .d (.list false (l.map al.enc))∧s 1=iA k∧s 5=iA (st n).1∧s 6=iA (st n).2∧s 7=iA ((n:Int)+1)) (fun n=>4-n) 0 (ak.refl _ _) ?_ ?_
 ·refine⟨rfl,by omega,?_⟩
  rw[h0]
  simp -implicitDefEqProofs only[↓reduceIte,go_sem,Nat.reduceLT,Nat.reduceEqDiff,Int.reduceAdd,Int.reduceNeg,reduceCtorEq]
 ·rintro n s H' ⟨rfl,hn,t0,t1,t5,t6,t7⟩
  by_cases h4:n<4
  ·have hs:=hst n
   have hb1:=hb ((n:Int)+1)
   have wn:IntKind.i64.wrap ((n:Int)+1+1)=(n:Int)+1+1:=wrap64_in _ (by omega) (by omega)
   unfold Ct at hs
   generalize st n=x at*
   obtain⟨x1,x2⟩:=x
   simp only at hs t5 t6
   generalize hbp:jH l k ((n:Int)+1)=q at*
   obtain⟨bs,e⟩:=q
   simp only at hs hb1
   simp -implicitDefEqProofs only[↓reduceIte,go_sem,Nat.reduceLT,Nat.reduceEqDiff,reduceCtorEq,t0,t1,t7,show(((n:Int)+1)≤4)=True from eq_true (by omega)]
   refine ae.ok (hb1 _) ?_
   by_cases he:e=0
   ·by_cases h1:x1<0
    ·rw[if_pos ⟨he,.inl h1⟩]at hs
     simp -implicitDefEqProofs only[↓reduceIte,go_sem,Nat.reduceLT,Nat.reduceEqDiff,t5,t7,he,h1,bP,wn]
     refine⟨_,_,n+1,ak.refl _ _,⟨rfl,by omega,?_⟩,by omega⟩
     rw[hs]
     simp -implicitDefEqProofs only[↓reduceIte,go_sem,Nat.reduceLT,Nat.reduceEqDiff,reduceCtorEq,t0,t1]
    ·by_cases h2:(bs.length:Int)<x1
     ·rw[if_pos ⟨he,.inr h2⟩]at hs
      simp -implicitDefEqProofs only[↓reduceIte,go_sem,Nat.reduceLT,Nat.reduceEqDiff,reduceCtorEq,t5,t7,he,h1,h2,bP,wn]
      refine⟨_,_,n+1,ak.refl _ _,⟨rfl,by omega,?_⟩,by omega⟩
      rw[hs]
      simp -implicitDefEqProofs only[↓reduceIte,go_sem,Nat.reduceLT,Nat.reduceEqDiff,reduceCtorEq,t0,t1]
     ·rw[if_neg (fun h=>h.2.elim h1 h2)]at hs
      simp -implicitDefEqProofs only[↓reduceIte,go_sem,Nat.reduceLT,Nat.reduceEqDiff,reduceCtorEq,t5,t7,he,h1,h2,bP,wn]
      refine⟨_,_,n+1,ak.refl _ _,⟨rfl,by omega,?_⟩,by omega⟩
      rw[hs]
      simp -implicitDefEqProofs only[↓reduceIte,go_sem,Nat.reduceLT,Nat.reduceEqDiff,reduceCtorEq,t0,t1,t5,t6]
   ·rw[if_neg (fun h=>he h.1)]at hs
    simp -implicitDefEqProofs only[↓reduceIte,go_sem,Nat.reduceLT,Nat.reduceEqDiff,reduceCtorEq,t7,he,wn]
    refine⟨_,_,n+1,ak.refl _ _,⟨rfl,by omega,?_⟩,by omega⟩
    rw[hs]
    simp -implicitDefEqProofs only[↓reduceIte,go_sem,Nat.reduceLT,Nat.reduceEqDiff,reduceCtorEq,t0,t1,t5,t6]
  ·obtain rfl:n=4:=by omega
   simp -implicitDefEqProofs only[↓reduceIte,go_sem,Nat.reduceLT,Nat.reduceEqDiff,Int.reduceLE,Int.reduceAdd,t6,t7]
   refine an.aI ?_
   simp -implicitDefEqProofs only[↓reduceIte,go_sem,Nat.reduceLT]
def jt(l:List Bool):List (List D):=l.map fun b=>[.v (.bool b)]
theorem rl(l:List Bool):(jt l).length=l.length:=by simp[jt]
theorem yP(l:List Bool)(b:Bool):jt l++[[.v (.bool b)]]=jt (l++[b]):=by simp[jt]
def ck(l:List al):List al:=l.filter fun v=>decide (v.kind≠0)
def rm(l:List al):List (List AV):=(ck l).map fun v=>[v.av]
abbrev lB(l:List al):ay:= .box 136 1 0 1 [.d (.list false (l.map al.enc))]
theorem yp(l:List al)(v:al):ck (l++[v])=if v.kind=0 then ck l else ck l++[v]:=by
 unfold ck
 rw[List.filter_append]
 by_cases h:v.kind=0<;>simp[h]
theorem C1(l:List al){k:Nat}(hk:k<l.length)(hz:l[k].kind≠0):∃h:(ck (l.take k)).length<(rm l).length,(rm l)[(ck (l.take k)).length]=[l[k].av]:=by
 have e:ck l=ck (l.take k)++l[k]::ck (l.drop (k+1)):=by
  have h1:l=l.take k++(l[k]::l.drop (k+1)):=by rw[←List.drop_eq_getElem_cons hk,List.take_append_drop]
  have h2:ck (l.take k++(l[k]::l.drop (k+1)))=ck (l.take k)++l[k]::ck (l.drop (k+1)):=by
   unfold ck
   rw[List.filter_append,List.filter_cons,if_pos (by simpa using hz)]
  rw[←h1]at h2
  exact h2
 unfold rm
 rw[e]
 refine⟨by simp,?_⟩
 simp
theorem Bg(l:List al)(H:aa):ag Tryz.prog 156 [.d (.list false (l.map al.enc))] H (.ok (.fn 189 [.ptr H.length 0 0 0])) (H++[lB l]):=by
 refine ag.ai (hint:=(fun _=>false)) Tryz.func156 (by kernel_rfl) rfl [2] (by kernel_rfl) (by decide) (by simp[Tryz.ntmps156]) ?_
 rw[Tryz.ntmps156]
 simp -implicitDefEqProofs only[↓reduceIte,go_sem,Nat.reduceLT,Nat.reduceEqDiff]
 exact⟨_,ak.refl _ _,by simp -implicitDefEqProofs only[↓reduceIte,go_sem,Nat.reduceLT]⟩
theorem DN(l:List al)(id:Nat)(hl:l.length≤1000000000000):mz Tryz.prog 189 [.ptr id 0 0 0] (fun H=>H[id]?=some (lB l)) (rm l):=by
 intro r s0 J Jx m Hs h0 hsb hJ hY
 refine oP.ai (hint:=fun t=>t==3000000) Tryz.func189 (by kernel_rfl) rfl [] (by kernel_rfl) (by decide) (by simp[Tryz.ntmps189]) ?_
 rw[Tryz.ntmps189]
 obtain⟨hC0,_,hl0⟩:=hJ 0 Hs h0
 have hx0:(Hs++[ay.lp r s0])[id]?=some (lB l):=by rw[List.getElem?_append_left (aj hC0)];exact hC0
 simp -implicitDefEqProofs only[↓reduceIte,go_sem,ab,Nat.reduceLT,hx0]
 refine aU (fun k s H'=>∃Hk,J (ck (l.take k)).length Hk∧H'=Hk++[.lp r s0]∧s 0= .gq m∧s 5= .d (.list false (l.map al.enc))∧s 6=iA l.length∧s 7=iA k) l.length (by omega) (ak.refl _ _) ?_ ?_ ?_
 ·refine⟨Hs,h0,rfl,?_⟩
  simp -implicitDefEqProofs only[↓reduceIte,go_sem,Nat.reduceLT,Nat.reduceEqDiff,reduceCtorEq]
 ·rintro k s H' hk hw ⟨Hk,hJk,rfl,t0,t5,t6,t7⟩
  have hx:(l.map al.enc)[k]?=some [.v (.int .i64 l[k].kind),.v (.int .i64 l[k].i),.v (.string l[k].s)]:=by rw[List.getElem?_map,List.getElem?_eq_getElem hk];rfl
  have e1:=yp (l.take k) l[k]
  rw[←List.take_succ_eq_append_getElem hk]at e1
  obtain⟨hCk,hbk,hlk⟩:=hJ _ _ hJk
  by_cases hz:l[k].kind=0
  ·rw[if_pos hz]at e1
   generalize l[k]=v at*
   simp -implicitDefEqProofs only[↓reduceIte,go_sem,ab,aq,Nat.reduceAdd,Nat.reduceLT,Nat.reduceLeDiff,Nat.reduceEqDiff,Nat.reduceBEq,reduceCtorEq,t5,t6,t7,hk,hx,hz]
   refine⟨_,_,ak.iter rfl hbk hlk hl0 hsb,Hk,by rw[e1];exact hJk,rfl,?_⟩
   simp -implicitDefEqProofs only[↓reduceIte,go_sem,Nat.reduceLT,Nat.reduceEqDiff,reduceCtorEq,t0,t5,t6,hw,Nat.lt_add_one]
  ·rw[if_neg hz]at e1
   obtain⟨hi,hxi⟩:=C1 l hk hz
   have hYk:=fun T=>hY _ hi Hk T hJk
   rw[hxi]at hYk
   generalize hv:l[k]=v at*
   simp -implicitDefEqProofs only[↓reduceIte,go_sem,ab,aq,Nat.reduceAdd,Nat.reduceLT,Nat.reduceLeDiff,Nat.reduceEqDiff,Nat.reduceBEq,reduceCtorEq,t0,t5,t6,t7,hk,hx,hz]
   refine ql.ok (hYk [.box 100 3 0 1 [iA v.kind,iA v.i,sA v.s]]) ?_
   intro b H' hb
   cases b with
   |true=>
    rw[if_pos rfl]at hb
    obtain⟨Hk',hJk',rfl⟩:=hb
    obtain⟨hCk',hbk',hlk'⟩:=hJ _ _ hJk'
    simp -implicitDefEqProofs only[↓reduceIte,go_sem,Nat.reduceAdd,Nat.reduceLT,Nat.reduceEqDiff,Nat.reduceBEq,t7]
    refine⟨_,_,ak.iter rfl hbk' hlk' hl0 hsb,Hk',by rw[e1,List.length_append];exact hJk',rfl,?_⟩
    simp -implicitDefEqProofs only[↓reduceIte,go_sem,Nat.reduceLT,Nat.reduceEqDiff,reduceCtorEq,t0,t5,t6,hw,Nat.lt_add_one]
   |false=>
    rw[if_neg (by simp)]at hb
    obtain⟨Hk',c,hjx,hbk',hlk',rfl⟩:=hb
    simp -implicitDefEqProofs only[↓reduceIte,go_sem,Nat.reduceLT,Nat.reduceEqDiff]
    exact⟨_,_,ak.iter rfl hbk' hlk' hl0 hsb,rfl,.inr ⟨Hk',c,hjx,hlk',rfl⟩⟩
 ·rintro s H' ⟨Hk,hJk,rfl,t0,t5,t6,t7⟩
  rw[List.take_length]at hJk
  simp -implicitDefEqProofs only[↓reduceIte,go_sem,Nat.reduceLT,t6,t7]
  exact⟨_,_,ak.refl _ _,rfl,.inl ⟨Hk,by unfold rm;rw[List.length_map];exact hJk,rfl⟩⟩
theorem fX(gf:FuncId)(caps:List AV)(C:aa→Prop)(l:List al)(H:aa)(hs:mz Tryz.prog gf caps C (l.map fun v=>[v.av]))(hC:∀T,C (H++T))(hl:l.length≤1000000000):
  ag Tryz.prog 240 [.d (.v (.slice none 0 0)),.fn gf caps] H (.ok (.d (.list false (l.map al.enc)))) H:=by
 refine ag.ai (hint:=(fun t=>t==2000000)) Tryz.func240 (by kernel_rfl) rfl [4] (by kernel_rfl) (by decide) (by simp[Tryz.ntmps240]) ?_
 rw[Tryz.ntmps240]
 simp -implicitDefEqProofs only[↓reduceIte,go_sem,Nat.reduceAdd,Nat.reduceLT,Nat.reduceEqDiff,Nat.reduceBEq]
 refine fM (fun _=>false) (fun k Hk=>Hk=H++[.box 136 1 0 1 [.sl (H.length+1) k 0 k],.arr 100 3 k ((l.take k).map al.enc)]) (fun _ _=>False) rfl rfl (ak.df _ _ H.length 136 1 0 1 [.d (.v (.slice none 0 0))] 0 _ 100 3 (by decide) (by simp) rfl rfl) (by simp -implicitDefEqProofs only[↓reduceIte,go_sem,Nat.reduceLT]) hs ?_ ?_ ?_ ?_ ?_ (fun _ _ h=>h.elim)
 ·intro v hv
  obtain⟨u,_,rfl⟩:=List.mem_map.1 hv
  exact⟨rfl,fun w hw=>by rw[List.mem_singleton.1 hw];rfl⟩
 ·simp -implicitDefEqProofs only[go_sem,List.take_zero]
 ·rintro k _ rfl
  exact⟨hC _,by simp -implicitDefEqProofs only[go_sem,Nat.reduceAdd]⟩
 ·rintro k hk _ rfl
  rw[List.length_map]at hk
  have e1:(l.take (k+1)).map al.enc=(l.take k).map al.enc++[l[k].enc]:=by rw[List.take_succ_eq_append_getElem hk,List.map_append];rfl
  have hlen:((l.take k).map al.enc).length=k:=by rw[List.length_map,List.length_take];omega
  rw[e1,List.getElem_map]
  generalize (l.take k).map al.enc=B at*
  generalize l[k]=v at*
  simp -implicitDefEqProofs only[↓reduceIte,go_sem,ab,aq,Nat.reduceAdd,Nat.reduceLT,Nat.reduceLeDiff,Nat.reduceEqDiff,hlen]
  refine⟨by omega,by omega,?_⟩
  refine tC.cut [.box 136 1 0 1 [.sl (H.length+1) (k+1) 0 (k+1)],.arr 100 3 (k+1) (B++[v.enc])] _ rfl rfl (by simp -implicitDefEqProofs only[go_sem,Nat.reduceAdd]) (by simp -implicitDefEqProofs only[go_sem,Nat.reduceAdd,Nat.reduceLT]) ?_
  rfl
 ·rintro _ rfl
  rw[List.length_map,List.take_length]
  simp -implicitDefEqProofs only[↓reduceIte,go_sem,ab,Nat.reduceAdd,Nat.reduceLT,Nat.reduceEqDiff,Nat.reduceBEq]
  refine an.ret ?_
  simp -implicitDefEqProofs only[↓reduceIte,go_sem,Nat.reduceLT,List.take_of_length_le (show(l.map al.enc).length≤l.length by simp)]
theorem mE(gf:FuncId)(caps:List AV)(C:aa→Prop)(l:List al)(H:aa)(hs:mz Tryz.prog gf caps C (l.map fun v=>[v.av]))(hC:∀T,C (H++T))(hl:l.length≤1000000000):
  ag Tryz.prog 208 [.fn gf caps] H (.ok (.d (.list false (l.map al.enc)))) H:=by
 refine ag.ai (hint:=(fun _=>false)) Tryz.func208 (by kernel_rfl) rfl [2] (by kernel_rfl) (by decide) (by simp[Tryz.ntmps208]) ?_
 rw[Tryz.ntmps208]
 simp -implicitDefEqProofs only[↓reduceIte,go_sem,Nat.reduceLT,reduceCtorEq]
 refine ae.ok (fX gf caps C l _ hs hC hl) ?_
 simp -implicitDefEqProofs only[↓reduceIte,go_sem,Nat.reduceLT]
 refine an.aI ?_
 simp -implicitDefEqProofs only[↓reduceIte,go_sem,Nat.reduceLT]
def ey(l:List al):List Bool:=l.map fun v=>decide (v.kind=0)
theorem tY(l:List al)(v:al):ey (l++[v])=ey l++[decide (v.kind=0)]:=by simp[ey]
theorem kY(l:List al):(ey l).length=l.length:=by simp[ey]
theorem yQ(l:List al)(hl:l.length≤1000000000)(H:aa):ag Tryz.prog 123 [.d (.list false (l.map al.enc))] H (.ok (.a7 [.d (.list false (jt (ey l))),.d (.list false ((ck l).map al.enc))])) H:=by
 refine ag.ai (hint:=(fun t=>t==2000000)) Tryz.func123 (by kernel_rfl) rfl [2,3] (by kernel_rfl) (by decide) (by simp[Tryz.ntmps123]) ?_
 rw[Tryz.ntmps123]
 simp -implicitDefEqProofs only[↓reduceIte,go_sem,Nat.reduceAdd,Nat.reduceLT,Nat.reduceBEq,reduceCtorEq]
 refine aU (fun k s H'=>H'=H++[.arr 4 1 k (jt (ey (l.take k)))]∧s 0= .d (.list false (l.map al.enc))∧s 4= .sl H.length k 0 k∧s 9= .d (.list false (l.map al.enc))∧s 10=iA l.length∧s 11=iA k) l.length (by omega) (ak.eg _ _ 4 4 1 (by decide) (by simp -implicitDefEqProofs only[↓reduceIte,go_sem,Nat.reduceLT,Nat.reduceEqDiff]) _) ?_ ?_ ?_
 ·refine⟨rfl,?_⟩
  simp -implicitDefEqProofs only[↓reduceIte,go_sem,Nat.reduceLT,Nat.reduceEqDiff,reduceCtorEq]
 ·rintro k s H' hk hw ⟨rfl,t0,t4,t9,t10,t11⟩
  have hx:(l.map al.enc)[k]?=some [.v (.int .i64 l[k].kind),.v (.int .i64 l[k].i),.v (.string l[k].s)]:=by rw[List.getElem?_map,List.getElem?_eq_getElem hk];rfl
  have e1:=tY (l.take k) l[k]
  rw[←List.take_succ_eq_append_getElem hk]at e1
  have hml:(ey (l.take k)).length=k:=by rw[kY,List.length_take];omega
  rw[e1]
  generalize ey (l.take k)=B at*
  generalize l[k]=v at*
  generalize hdv:decide (v.kind=0)=dv at*
  simp -implicitDefEqProofs only[↓reduceIte,go_sem,ab,aq,Nat.reduceAdd,Nat.reduceLT,Nat.reduceLeDiff,Nat.reduceEqDiff,Nat.reduceBEq,t4,t9,t10,t11,hk,hx,hdv,rl,hml,yP]
  refine⟨by omega,by omega,?_⟩
  refine cl.cut [.arr 4 1 (k+1) (jt (B++[dv]))] _ 1 rfl rfl (by simp -implicitDefEqProofs only[go_sem]) ?_
  refine⟨rfl,?_⟩
  simp -implicitDefEqProofs only[↓reduceIte,go_sem,Nat.reduceLT,Nat.reduceEqDiff,reduceCtorEq,t0,t9,t10,hw]
 ·rintro s H' ⟨rfl,t0,t4,t9,t10,t11⟩
  rw[List.take_length]
  simp -implicitDefEqProofs only[↓reduceIte,go_sem,Nat.reduceAdd,Nat.reduceLT,Nat.reduceBEq,reduceCtorEq,t0,t10,t11]
  refine ae.ok (Bg l _) ?_
  simp -implicitDefEqProofs only[go_sem,Nat.reduceAdd]
  have hsq:=DN l (H.length+2) (by omega)
  have hfl:(ck l).length≤l.length:=List.length_filter_le _ _
  unfold rm at hsq
  generalize ck l=L at*
  have hBl:(jt (ey l)).length≤l.length:=by rw[rl,kY];exact Nat.le_refl _
  generalize jt (ey l)=B at*
  refine fM (fun _=>false) (fun k Hk=>Hk=H++[.arr 4 1 l.length B,.box 136 1 0 1 [.sl (H.length+3) k 0 k],lB l,.arr 100 3 k ((L.take k).map al.enc)]) (fun _ _=>False) rfl rfl (ak.df _ _ (H.length+1) 136 1 0 1 [.d (.v (.slice none 0 0))] 0 _ 100 3 (by decide) (by simp -implicitDefEqProofs only[go_sem]) rfl rfl) (by simp -implicitDefEqProofs only[↓reduceIte,go_sem,Nat.reduceLT]) hsq ?_ ?_ ?_ ?_ ?_ (fun _ _ h=>h.elim)
  ·intro v hv
   obtain⟨u,_,rfl⟩:=List.mem_map.1 hv
   exact⟨rfl,fun w hw=>by rw[List.mem_singleton.1 hw];rfl⟩
  ·simp -implicitDefEqProofs only[go_sem,Nat.reduceAdd,List.take_zero]
  ·rintro k _ rfl
   exact⟨by simp -implicitDefEqProofs only[go_sem],by simp -implicitDefEqProofs only[go_sem,Nat.reduceAdd]⟩
  ·rintro k hk _ rfl
   rw[List.length_map]at hk
   have e1:(L.take (k+1)).map al.enc=(L.take k).map al.enc++[L[k].enc]:=by rw[List.take_succ_eq_append_getElem hk,List.map_append];rfl
   have hlen:((L.take k).map al.enc).length=k:=by rw[List.length_map,List.length_take];omega
   rw[e1,List.getElem_map]
   generalize (L.take k).map al.enc=E at*
   generalize L[k]=v at*
   simp -implicitDefEqProofs only[↓reduceIte,go_sem,ab,aq,Nat.reduceAdd,Nat.reduceLT,Nat.reduceLeDiff,Nat.reduceEqDiff,hlen]
   refine⟨by omega,by omega,?_⟩
   refine tC.cut [.arr 4 1 l.length B,.box 136 1 0 1 [.sl (H.length+3) (k+1) 0 (k+1)],lB l,.arr 100 3 (k+1) (E++[v.enc])] _ rfl rfl (by simp -implicitDefEqProofs only[go_sem,Nat.reduceAdd]) (by simp -implicitDefEqProofs only[go_sem,Nat.reduceAdd,Nat.reduceLT]) ?_
   rfl
  ·rintro _ rfl
   rw[List.length_map,List.take_length]
   simp -implicitDefEqProofs only[go_sem,Nat.reduceAdd,Nat.reduceBEq]
   refine aF K.mixed (by kernel_rfl) ?_
   simp -implicitDefEqProofs only[↓reduceIte,go_sem,ab,Nat.reduceLT,Nat.reduceEqDiff,t4]
   refine an.ret ?_
   simp -implicitDefEqProofs only[↓reduceIte,go_sem,Nat.reduceLT,Nat.reduceEqDiff,List.take_of_length_le (show(L.map al.enc).length≤L.length by simp),List.take_of_length_le hBl]
structure Sg where
 kind:Int
 Fg:Int
 eZ:Zn
 cD:List Bool
 body:List Nat
deriving DecidableEq
def Sg.cs(s:Sg):List AV:=[iA s.kind,iA s.Fg,iA s.eZ.rows,iA s.eZ.cD,iA s.eZ.mn.kind,iA s.eZ.mn.i,sA s.eZ.mn.s,iA s.eZ.mx.kind,iA s.eZ.mx.i,sA s.eZ.mx.s,.d (.list false (jt s.cD)),.d (.list false (dW s.body))]
def kz:Zn:=⟨0,0,⟨0,0,jE⟩,⟨0,0,jE⟩⟩
def Jr:Sg:=⟨0,0,kz,[],[]⟩
def qI:List AV:=[iA 0,iA 0,iA 0,iA 0,iA 0,iA 0,sA jE,iA 0,iA 0,sA jE,.d (.v (.slice none 0 0)),.d (.v (.slice none 0 0))]
theorem sa:Sub (.agg qI) (.agg Jr.cs):=
 .agg (.cons (.refl _) (.cons (.refl _) (.cons (.refl _) (.cons (.refl _) (.cons (.refl _) (.cons (.refl _) (.cons (.refl _) (.cons (.refl _) (.cons (.refl _) (.cons (.refl _) (.cons .nil (.cons .nil .nil))))))))))))
def jJ(l:List al)(k w:Int):Int:=if w=0 then vP (ck l) k else w
def rA(l:List al):List Bool:=if(ck l).length=l.length then[]else ey l
def kJ(l:List al)(k w:Int):Sg×Int:=
 if bj (ck l) k≠0 then(Jr,bj (ck l) k)
 else if 4096<l.length then(Jr,2)
 else if(jH (ck l) k (jJ l k w)).2≠0 then(Jr,(jH (ck l) k (jJ l k w)).2)
 else(⟨k,jJ l k w,oF l,rA l,(jH (ck l) k (jJ l k w)).1⟩,0)
theorem Ae(l:List al)(k w:Int)(hok:∀v∈l,iJ v.i)(hl:l.length≤1000000000)(H:aa):
  ag Tryz.prog 76 [.d (.list false (l.map al.enc)),iA k,iA w] H (.ok (.a7 [.agg (kJ l k w).1.cs,iA (kJ l k w).2])) H:=by
 have hs:=fun H=>yQ l hl H
 have hfl:(ck l).length≤l.length:=List.length_filter_le _ _
 have hok2:∀v∈ck l,iJ v.i:=fun v hv=>hok v ((List.mem_filter.1 hv).1)
 have hc:=fun H=>dD (ck l) k false H (by omega)
 have hbe:=fun H=>zX (ck l) k hok2 (by omega) H
 have hbo:=fun H=>rK (ck l) k (jJ l k w) hok2 (by omega) H
 have hzo:=fun H=>BH l false hl H
 unfold kJ rA
 have hw0:w=0→jJ l k w=vP (ck l) k:=fun h=>if_pos h
 have hw1:w≠0→jJ l k w=w:=fun h=>if_neg h
 generalize jJ l k w=w' at*
 generalize vP (ck l) k=be at*
 generalize jH (ck l) k w'=bo at*
 obtain⟨bb,e⟩:=bo
 simp only at hbo⊢
 generalize oF l=z at*
 generalize bj (ck l) k=pe at*
 have hol:((ey l).length=l.length):=kY l
 generalize ey l=ns at*
 generalize ck l=L at*
 by_cases hpe:pe≠0
 ·rw[if_pos hpe]
  refine ag.kf (cs:=[.agg qI,iA pe]) ?_ (.cons sa (.cons (.refl _) .nil))
  refine ag.cA (hint:=fun _=>false) Tryz.func76 (by kernel_rfl) rfl [.cell 6 113,.tmp 7] (by kernel_rfl) (by simp[Tryz.ntmps76]) ?_
  rw[Tryz.ntmps76]
  simp -implicitDefEqProofs only[↓reduceIte,go_sem,Nat.reduceLT,reduceCtorEq]
  refine ae.ok (hs _) ?_
  simp -implicitDefEqProofs only[↓reduceIte,go_sem,Nat.reduceLT,Nat.reduceEqDiff]
  refine ae.ok (hc _) ?_
  simp -implicitDefEqProofs only[↓reduceIte,go_sem,aq,Nat.reduceAdd,Nat.reduceLT,Nat.reduceEqDiff,hpe]
  refine cV.ret ?_
  simp -implicitDefEqProofs only[↓reduceIte,go_sem,ab,Nat.reduceAdd,Nat.reduceLT,Nat.reduceLeDiff,Nat.reduceEqDiff,bH,cX,qI,jE]
 rw[if_neg hpe]
 obtain rfl:pe=0:=by simpa using hpe
 by_cases h4:4096<l.length
 ·rw[if_pos h4]
  refine ag.kf (cs:=[.agg qI,iA 2]) ?_ (.cons sa (.cons (.refl _) .nil))
  refine ag.cA (hint:=fun _=>false) Tryz.func76 (by kernel_rfl) rfl [.cell 6 113,.tmp 7] (by kernel_rfl) (by simp[Tryz.ntmps76]) ?_
  rw[Tryz.ntmps76]
  simp -implicitDefEqProofs only[↓reduceIte,go_sem,Nat.reduceLT,reduceCtorEq]
  refine ae.ok (hs _) ?_
  simp -implicitDefEqProofs only[↓reduceIte,go_sem,Nat.reduceLT,Nat.reduceEqDiff]
  refine ae.ok (hc _) ?_
  simp -implicitDefEqProofs only[↓reduceIte,go_sem,aq,Nat.reduceAdd,Nat.reduceLT,Nat.reduceEqDiff,reduceCtorEq,List.length_map,show((4096:Int)<(l.length:Int))=True from eq_true (by omega)]
  refine cV.ret ?_
  simp -implicitDefEqProofs only[↓reduceIte,go_sem,ab,Nat.reduceAdd,Nat.reduceLT,Nat.reduceLeDiff,Nat.reduceEqDiff,bH,cX,qI,jE]
 rw[if_neg h4]
 have h4f:((4096:Int)<(l.length:Int))=False:=eq_false (by omega)
 by_cases he:e≠0
 ·rw[if_pos he]
  refine ag.kf (cs:=[.agg qI,iA e]) ?_ (.cons sa (.cons (.refl _) .nil))
  by_cases hw:w=0
  ·obtain rfl:=hw0 hw
   refine ag.cA (hint:=fun _=>false) Tryz.func76 (by kernel_rfl) rfl [.cell 6 113,.tmp 7] (by kernel_rfl) (by simp[Tryz.ntmps76]) ?_
   rw[Tryz.ntmps76]
   simp -implicitDefEqProofs only[↓reduceIte,go_sem,Nat.reduceLT,reduceCtorEq]
   refine ae.ok (hs _) ?_
   simp -implicitDefEqProofs only[↓reduceIte,go_sem,Nat.reduceLT,Nat.reduceEqDiff]
   refine ae.ok (hc _) ?_
   simp -implicitDefEqProofs only[↓reduceIte,go_sem,Nat.reduceLT,Nat.reduceEqDiff,reduceCtorEq,List.length_map,h4f,hw]
   refine ae.ok (hbe _) ?_
   simp -implicitDefEqProofs only[↓reduceIte,go_sem,Nat.reduceLT,Nat.reduceEqDiff]
   refine ae.ok (hbo _) ?_
   simp -implicitDefEqProofs only[↓reduceIte,go_sem,aq,Nat.reduceAdd,Nat.reduceLT,Nat.reduceEqDiff,he]
   refine cV.ret ?_
   simp -implicitDefEqProofs only[↓reduceIte,go_sem,ab,Nat.reduceAdd,Nat.reduceLT,Nat.reduceLeDiff,Nat.reduceEqDiff,bH,cX,qI,jE]
  ·obtain rfl:=hw1 hw
   refine ag.cA (hint:=fun _=>false) Tryz.func76 (by kernel_rfl) rfl [.cell 6 113,.tmp 7] (by kernel_rfl) (by simp[Tryz.ntmps76]) ?_
   rw[Tryz.ntmps76]
   simp -implicitDefEqProofs only[↓reduceIte,go_sem,Nat.reduceLT,reduceCtorEq]
   refine ae.ok (hs _) ?_
   simp -implicitDefEqProofs only[↓reduceIte,go_sem,Nat.reduceLT,Nat.reduceEqDiff]
   refine ae.ok (hc _) ?_
   simp -implicitDefEqProofs only[↓reduceIte,go_sem,Nat.reduceLT,Nat.reduceEqDiff,reduceCtorEq,List.length_map,h4f,hw]
   refine ae.ok (hbo _) ?_
   simp -implicitDefEqProofs only[↓reduceIte,go_sem,aq,Nat.reduceAdd,Nat.reduceLT,Nat.reduceEqDiff,he]
   refine cV.ret ?_
   simp -implicitDefEqProofs only[↓reduceIte,go_sem,ab,Nat.reduceAdd,Nat.reduceLT,Nat.reduceLeDiff,Nat.reduceEqDiff,bH,cX,qI,jE]
 rw[if_neg he]
 obtain rfl:e=0:=by simpa using he
 by_cases hn:L.length=l.length
 ·have hnt:((L.length:Int)=(l.length:Int))=True:=eq_true (by omega)
  rw[if_pos hn]
  refine ag.kf (cs:=[.agg [iA k,iA w',iA z.rows,iA z.cD,iA z.mn.kind,iA z.mn.i,sA z.mn.s,iA z.mx.kind,iA z.mx.i,sA z.mx.s,.d (.v (.slice none 0 0)),.d (.list false (dW bb))],iA 0]) ?_
   (.cons (.agg (.cons (.refl _) (.cons (.refl _) (.cons (.refl _) (.cons (.refl _) (.cons (.refl _) (.cons (.refl _) (.cons (.refl _) (.cons (.refl _) (.cons (.refl _) (.cons (.refl _) (.cons .nil (.cons (.refl _) .nil))))))))))))) (.cons (.refl _) .nil))
  by_cases hw:w=0
  ·obtain rfl:=hw0 hw
   refine ag.cA (hint:=fun _=>false) Tryz.func76 (by kernel_rfl) rfl [.cell 6 113,.tmp 7] (by kernel_rfl) (by simp[Tryz.ntmps76]) ?_
   rw[Tryz.ntmps76]
   simp -implicitDefEqProofs only[↓reduceIte,go_sem,Nat.reduceLT,reduceCtorEq]
   refine ae.ok (hs _) ?_
   simp -implicitDefEqProofs only[↓reduceIte,go_sem,Nat.reduceLT,Nat.reduceEqDiff]
   refine ae.ok (hc _) ?_
   simp -implicitDefEqProofs only[↓reduceIte,go_sem,Nat.reduceLT,Nat.reduceEqDiff,reduceCtorEq,List.length_map,h4f,hw]
   refine ae.ok (hbe _) ?_
   simp -implicitDefEqProofs only[↓reduceIte,go_sem,Nat.reduceLT,Nat.reduceEqDiff]
   refine ae.ok (hbo _) ?_
   simp -implicitDefEqProofs only[↓reduceIte,go_sem,Nat.reduceLT,Nat.reduceEqDiff,reduceCtorEq,List.length_map,hnt]
   refine ae.ok (hzo _) ?_
   simp -implicitDefEqProofs only[↓reduceIte,go_sem,aq,Nat.reduceAdd,Nat.reduceLT,Nat.reduceLeDiff,Nat.reduceEqDiff,Zn.cs]
   refine cV.ret ?_
   simp -implicitDefEqProofs only[↓reduceIte,go_sem,ab,Nat.reduceAdd,Nat.reduceLT,Nat.reduceLeDiff,Nat.reduceEqDiff,bH,cX]
  ·obtain rfl:=hw1 hw
   refine ag.cA (hint:=fun _=>false) Tryz.func76 (by kernel_rfl) rfl [.cell 6 113,.tmp 7] (by kernel_rfl) (by simp[Tryz.ntmps76]) ?_
   rw[Tryz.ntmps76]
   simp -implicitDefEqProofs only[↓reduceIte,go_sem,Nat.reduceLT,reduceCtorEq]
   refine ae.ok (hs _) ?_
   simp -implicitDefEqProofs only[↓reduceIte,go_sem,Nat.reduceLT,Nat.reduceEqDiff]
   refine ae.ok (hc _) ?_
   simp -implicitDefEqProofs only[↓reduceIte,go_sem,Nat.reduceLT,Nat.reduceEqDiff,reduceCtorEq,List.length_map,h4f,hw]
   refine ae.ok (hbo _) ?_
   simp -implicitDefEqProofs only[↓reduceIte,go_sem,Nat.reduceLT,Nat.reduceEqDiff,reduceCtorEq,List.length_map,hnt]
   refine ae.ok (hzo _) ?_
   simp -implicitDefEqProofs only[↓reduceIte,go_sem,aq,Nat.reduceAdd,Nat.reduceLT,Nat.reduceLeDiff,Nat.reduceEqDiff,Zn.cs]
   refine cV.ret ?_
   simp -implicitDefEqProofs only[↓reduceIte,go_sem,ab,Nat.reduceAdd,Nat.reduceLT,Nat.reduceLeDiff,Nat.reduceEqDiff,bH,cX]
 ·have hnt:((L.length:Int)=(l.length:Int))=False:=eq_false (by omega)
  rw[if_neg hn]
  by_cases hw:w=0
  ·obtain rfl:=hw0 hw
   refine ag.cA (hint:=fun _=>false) Tryz.func76 (by kernel_rfl) rfl [.cell 6 113,.tmp 7] (by kernel_rfl) (by simp[Tryz.ntmps76]) ?_
   rw[Tryz.ntmps76]
   simp -implicitDefEqProofs only[↓reduceIte,go_sem,Nat.reduceLT,reduceCtorEq]
   refine ae.ok (hs _) ?_
   simp -implicitDefEqProofs only[↓reduceIte,go_sem,Nat.reduceLT,Nat.reduceEqDiff]
   refine ae.ok (hc _) ?_
   simp -implicitDefEqProofs only[↓reduceIte,go_sem,Nat.reduceLT,Nat.reduceEqDiff,reduceCtorEq,List.length_map,h4f,hw]
   refine ae.ok (hbe _) ?_
   simp -implicitDefEqProofs only[↓reduceIte,go_sem,Nat.reduceLT,Nat.reduceEqDiff]
   refine ae.ok (hbo _) ?_
   simp -implicitDefEqProofs only[↓reduceIte,go_sem,Nat.reduceLT,Nat.reduceEqDiff,reduceCtorEq,List.length_map,hnt]
   refine ae.ok (hzo _) ?_
   simp -implicitDefEqProofs only[↓reduceIte,go_sem,aq,Nat.reduceAdd,Nat.reduceLT,Nat.reduceLeDiff,Nat.reduceEqDiff,Zn.cs]
   refine cV.ret ?_
   simp -implicitDefEqProofs only[↓reduceIte,go_sem,ab,Nat.reduceAdd,Nat.reduceLT,Nat.reduceLeDiff,Nat.reduceEqDiff,bH,cX,Sg.cs]
  ·obtain rfl:=hw1 hw
   refine ag.cA (hint:=fun _=>false) Tryz.func76 (by kernel_rfl) rfl [.cell 6 113,.tmp 7] (by kernel_rfl) (by simp[Tryz.ntmps76]) ?_
   rw[Tryz.ntmps76]
   simp -implicitDefEqProofs only[↓reduceIte,go_sem,Nat.reduceLT,reduceCtorEq]
   refine ae.ok (hs _) ?_
   simp -implicitDefEqProofs only[↓reduceIte,go_sem,Nat.reduceLT,Nat.reduceEqDiff]
   refine ae.ok (hc _) ?_
   simp -implicitDefEqProofs only[↓reduceIte,go_sem,Nat.reduceLT,Nat.reduceEqDiff,reduceCtorEq,List.length_map,h4f,hw]
   refine ae.ok (hbo _) ?_
   simp -implicitDefEqProofs only[↓reduceIte,go_sem,Nat.reduceLT,Nat.reduceEqDiff,reduceCtorEq,List.length_map,hnt]
   refine ae.ok (hzo _) ?_
   simp -implicitDefEqProofs only[↓reduceIte,go_sem,aq,Nat.reduceAdd,Nat.reduceLT,Nat.reduceLeDiff,Nat.reduceEqDiff,Zn.cs]
   refine cV.ret ?_
   simp -implicitDefEqProofs only[↓reduceIte,go_sem,ab,Nat.reduceAdd,Nat.reduceLT,Nat.reduceLeDiff,Nat.reduceEqDiff,bH,cX,Sg.cs]
def Sg.ds(s:Sg):List D:=[iD s.kind,iD s.Fg,iD s.eZ.rows,iD s.eZ.cD,iD s.eZ.mn.kind,iD s.eZ.mn.i,.v (.string s.eZ.mn.s),iD s.eZ.mx.kind,iD s.eZ.mx.i,.v (.string s.eZ.mx.s),.list false (jt s.cD),.list false (dW s.body)]
structure Pj where
 aC:List Int
 key:List Int
 rows:Nat
 bl:List (List Sg)
deriving DecidableEq
def bg(S:List (List Sg)):List (List D):=S.map fun l=>[.list false (l.map Sg.ds)]
theorem dj(S:List (List Sg)):(bg S).length=S.length:=by simp[bg]
def Pj.ds(p:Pj):List D:=[.list false (ints p.aC),.list false (ints p.key),iD p.rows,.list false (bg p.bl)]
def Pj.av(p:Pj):AV:= .agg (p.ds.map .d)
def JA:Pj:=⟨[],[],0,[]⟩
def fW:List AV:=[.d (.v (.slice none 0 0)),.d (.v (.slice none 0 0)),iA 0,.d (.v (.slice none 0 0))]
theorem r9:Sub (.agg fW) JA.av:= .agg (.cons .nil (.cons .nil (.cons (.refl _) (.cons .nil .nil))))
def jz(c:Int)(R:List (List al)):List al:=R.map fun r=>iu r c
def bk(Q:List (List al))(ks:List Int)(w c:Int):List (Sg×Int):=(qC Q).map fun p=>kJ (jz c p) (ks.getD c.toNat 0) w
def lG(l:List Int):Int:=(l.find? fun e=>decide (e≠0)).getD 0
def uy(ks cs key:List Int):Prop:=cs.length=0∨8<key.length∨dU cs ks.length=false∨dU key ks.length=false∨¬cs.Nodup
instance (ks cs key:List Int):Decidable (uy ks cs key):=by unfold uy;infer_instance
def jU(Q:List (List al))(ks cs:List Int)(w:Int):Int:=lG (cs.flatMap fun c=>(bk Q ks w c).map (·.2))
def fe(Q:List (List al))(ks cs:List Int)(w:Int):List (List Sg):=cs.map fun c=>(bk Q ks w c).map (·.1)
def gG(R:List (List al))(ks cs key:List Int)(w:Int):Pj×Int:=
 if dm R ks≠0 then(JA,dm R ks)
 else if uy ks cs key then(JA,1)
 else if jU (oG R key) ks cs w≠0 then(JA,jU (oG R key) ks cs w)
 else(⟨cs,key,R.length,fe (oG R key) ks cs w⟩,0)
theorem wY{l m:List Int}{e:Int}(h:∀x∈l,x=0)(he:e≠0):lG (l++e::m)=e:=by
 unfold lG
 rw[List.find?_append,List.find?_eq_none.2 (fun x hx=>by simp[h x hx])]
 simp[he]
theorem tD{l:List Int}(h:∀x∈l,x=0):lG l=0:=by
 unfold lG
 rw[List.find?_eq_none.2 (fun x hx=>by simp[h x hx])]
 rfl
theorem mh(l:List Int)(H:aa)(hl:l.length≤1000000000000):ag Tryz.prog 73 [.d (.list true (ints l))] H (.ok (.d (.list false (ints l)))) H:=by
 refine ag.ai (hint:=(fun _=>false)) Tryz.func73 (by kernel_rfl) rfl [2] (by kernel_rfl) (by decide) (by simp[Tryz.ntmps73]) ?_
 rw[Tryz.ntmps73]
 simp -implicitDefEqProofs only[↓reduceIte,go_sem,Nat.reduceLT,Nat.reduceEqDiff,reduceCtorEq,mA,ao]
 refine⟨by omega,by omega,an.ret ?_⟩
 simp -implicitDefEqProofs only[↓reduceIte,go_sem,Nat.reduceLT,b8,ao]
theorem nA(l:List Int)(n1:Bool)(H:aa)(hl:l.length≤1000000000000):ag Tryz.prog 73 [.d (.list n1 (ints l))] H (.ok (.d (.list false (ints l)))) H:=by
 cases n1 with
 |true=>exact mh l H hl
 |false=>
  cases l with
  |cons a l=>exact dX _ false H (by simp) hl
  |nil=>
   refine ag.oE [] [] ?_ (mh [] H (by simp))
   have:=(c4 H).FZ .nil
   exact this
theorem vd(R:List (List al))(ks cs key:List Int)(w:Int)(n0 n1 n2 n3:Bool)(H:aa)(hR:R.length≤1000000000)(hr:∀r∈R,r.length≤1000000000)(hk:ks.length≤100000000000000)(he:dm R ks≠0):
  ag Tryz.prog 34 [.d (.list n0 (bU R)),.d (.list n1 (ints ks)),.d (.list n2 (ints cs)),.d (.list n3 (ints key)),iA w] H (.ok (.a7 [.agg fW,iA (dm R ks)])) H:=by
 have hc:=fun H=>jK R ks n0 n1 H (by omega) (fun r h=>by have:=hr r h;omega) (by omega)
 generalize dm R ks=e at*
 refine ag.cA (hint:=fun _=>false) Tryz.func34 (by kernel_rfl) rfl [.cell 10 36,.cell 11 68] (by kernel_rfl) (by simp[Tryz.ntmps34]) ?_
 rw[Tryz.ntmps34]
 simp -implicitDefEqProofs only[↓reduceIte,go_sem,ab,Nat.reduceAdd,Nat.reduceLT,Nat.reduceEqDiff,reduceCtorEq]
 refine ae.ok (hc _) ?_
 simp -implicitDefEqProofs only[↓reduceIte,go_sem,aq,Nat.reduceAdd,Nat.reduceLT,Nat.reduceEqDiff,he]
 refine cV.ret ?_
 simp -implicitDefEqProofs only[↓reduceIte,go_sem,ab,Nat.reduceAdd,Nat.reduceLT,Nat.reduceLeDiff,Nat.reduceEqDiff,reduceCtorEq,bH,cX,fW]
theorem ui(R:List (List al))(ks cs key:List Int)(w:Int)(n0 n1 n2 n3:Bool)(H:aa)(hR:R.length≤1000000000)(hr:∀r∈R,r.length≤1000000000)(hk:ks.length≤1000000000)(hcl:cs.length≤1000000000)(hkl:key.length≤1000000000)(he:dm R ks=0)(hb:uy ks cs key):
  ag Tryz.prog 34 [.d (.list n0 (bU R)),.d (.list n1 (ints ks)),.d (.list n2 (ints cs)),.d (.list n3 (ints key)),iA w] H (.ok (.a7 [.agg fW,iA 1])) H:=by
 have hc:=fun H=>jK R ks n0 n1 H (by omega) (fun r h=>by have:=hr r h;omega) (by omega)
 have hw1:=fun H=>gF cs n2 ks.length H (by omega)
 have hw2:=fun H=>gF key n3 ks.length H (by omega)
 have ho:=fun H=>CI.qM n2 cs H hcl
 unfold uy at hb
 generalize dU cs ks.length=b1 at*
 generalize dU key ks.length=b2 at*
 have hcn:decide cs.Nodup=false↔¬cs.Nodup:=by simp
 rw[←hcn]at hb
 generalize decide cs.Nodup=b3 at*
 rw[he]at hc
 refine ag.cA (hint:=fun _=>false) Tryz.func34 (by kernel_rfl) rfl [.cell 10 36,.cell 11 68] (by kernel_rfl) (by simp[Tryz.ntmps34]) ?_
 rw[Tryz.ntmps34]
 simp -implicitDefEqProofs only[↓reduceIte,go_sem,ab,Nat.reduceAdd,Nat.reduceLT,Nat.reduceEqDiff,reduceCtorEq]
 refine ae.ok (hc _) ?_
 by_cases h1:cs.length=0
 case' pos=>simp -implicitDefEqProofs only[↓reduceIte,go_sem,aq,Nat.reduceAdd,Nat.reduceLT,Nat.reduceEqDiff,ao,h1]
 case' neg=>
  by_cases h2:8<key.length
  case' pos=>simp -implicitDefEqProofs only[↓reduceIte,go_sem,aq,Nat.reduceAdd,Nat.reduceLT,Nat.reduceEqDiff,reduceCtorEq,ao,show ¬((cs.length:Int)=0) by omega,show(8:Int)<key.length by omega]
  case' neg=>
   simp -implicitDefEqProofs only[↓reduceIte,go_sem,ab,Nat.reduceLT,Nat.reduceEqDiff,reduceCtorEq,ao,show ¬((cs.length:Int)=0) by omega,show ¬(8:Int)<key.length by omega]
   refine ae.ok (hw1 _) ?_
   cases b1
   case' false=>simp -implicitDefEqProofs only[↓reduceIte,go_sem,aq,Nat.reduceAdd,Nat.reduceLT,Nat.reduceEqDiff,reduceCtorEq]
   case' true=>
    simp -implicitDefEqProofs only[↓reduceIte,go_sem,ab,Nat.reduceLT,Nat.reduceEqDiff,reduceCtorEq,ao]
    refine ae.ok (hw2 _) ?_
    cases b2
    case' false=>simp -implicitDefEqProofs only[↓reduceIte,go_sem,aq,Nat.reduceAdd,Nat.reduceLT,Nat.reduceEqDiff,reduceCtorEq]
    case' true=>
     simp -implicitDefEqProofs only[↓reduceIte,go_sem,Nat.reduceLT,Nat.reduceEqDiff,reduceCtorEq]
     refine ae.ok (ho _) ?_
     cases b3
     case' false=>simp -implicitDefEqProofs only[↓reduceIte,go_sem,aq,Nat.reduceAdd,Nat.reduceLT,Nat.reduceEqDiff,reduceCtorEq]
     case true=>rcases hb with h|h|h|h|h<;>first|exact absurd h h1|exact absurd h h2|cases h
 all_goals
  refine cV.ret ?_
  simp -implicitDefEqProofs only[↓reduceIte,go_sem,ab,Nat.reduceAdd,Nat.reduceLT,Nat.reduceLeDiff,Nat.reduceEqDiff,reduceCtorEq,bH,cX,fW]
end Go.Proofs.YtggohfhfocgilaaGreat
namespace Go.Proofs.YtggohfhfocgilaaGreatAw
open Go.RowKit
section
variable (P:Program) (hint:Nat→Bool) (n:Nat) (ops:Array Oper) (a p:Nat) (bx:ay) (B:aa)
def fG(o:Oper)(H:aa):Prop:=∃e z k b e',o.op= .alloc e∧o.guard=none∧TI P e=some (z,k,b)∧(0<k∧z.cells.size=k∧z.cells.all Value.oneCell'=true)∧hintOf hint o.dst=true∧bx= .box e k 1 1 (bE z.cells)∧H[p]?=some (.arr e' k 0 [])
def aZ(Q:aQ):Nat→List (Option Bool)→List Oper→(Nat→AV)→aa→Prop
 |_,[],l,s,H=>aN P hint n ops Q l s H
 |_,_::_,[],s,H=>aN P hint n ops Q [] s H
 |i,b::bs,o::rest,s,H=>if i=a then fG P hint p bx o H∧aZ Q (i+1) bs rest (bp n s o.dst (.ptr p 1 0 0)) (H.set p bx)else match b with
  |some false=>cN P hint n ops (fun _ _ _=>False) o (fun s' H'=>H'=H∧aZ Q (i+1) bs rest s' H') s H
  |none=>cN P hint n ops (fun _ _ _=>False) o (fun s' H'=>H'=B∧aZ Q (i+1) bs rest s' H) s B
  |some true=>o.guard=none∧(if i<a then aB P hint s H o (fun r H'=>aB P hint s (H.set p bx) o (fun r' H''=>r'=r∧H''=H'.set p bx∧H'[p]?=H[p]?∧Ext B H'∧aZ Q (i+1) bs rest (bp n s o.dst r) H') (fun _ _=>False)) (fun _ _=>False)
    else aB P hint s H o (fun r H'=>Ext B H'∧aZ Q (i+1) bs rest (bp n s o.dst r) H') (fun _ _=>False))
end
section
variable {P:Program} {hint:Nat→Bool} {n:Nat} {ops:Array Oper} {Q:aQ} {a p:Nat} {bx:ay} {B:aa}
def uh(P:Program)(hint:Nat→Bool)(n:Nat)(ops:Array Oper)(a p:Nat)(bx:ay)(B:aa)(b:Option Bool)(i:Nat)(o:Oper)(s:Nat→AV)(r:AV)(H H':aa):Prop:=
 if i=a then fG P hint p bx o H∧r= .ptr p 1 0 0∧H'=H.set p bx else match b with
 |some false=>bX P hint n ops H s o r H∧H'=H
 |none=>bX P hint n ops B s o r B∧H'=H
 |some true=>bX P hint n ops H s o r H'∧Ext B H'∧(i<a→bX P hint n ops (H.set p bx) s o r (H'.set p bx)∧H'[p]?=H[p]?)
theorem iW{H H':aa}{s:Nat→AV}{o:Oper}{r:AV}(hg:o.guard=none)(h:∀K KP,K r H'→aB P hint s H o K KP):bX P hint n ops H s o r H':=by
 unfold bX
 rw[hg]
 exact h
theorem kH(hdt:∀(i:Nat) (o:Oper),ops[i]?=some o→jW hint o.op=true)(s0:Nat→AV):∀(bs:List (Option Bool)) (k:Nat) (rs0:Nat→AV) (hp0:Nat→aa),k+bs.length≤ops.size→aZ P hint n ops a p bx B Q k bs (ops.toList.drop k) (bf n ops s0 rs0 k) (hp0 k)→
  ∃(rs:Nat→AV) (hp:Nat→aa),(∀i,i<k→rs i=rs0 i)∧(∀i,i≤k→hp i=hp0 i)∧
   (∀i o b,k≤i→i<k+bs.length→ops[i]?=some o→bs[i-k]?=some b→uh P hint n ops a p bx B b i o (bf n ops s0 rs i) (rs i) (hp i) (hp (i+1)))∧
   aN P hint n ops Q (ops.toList.drop (k+bs.length)) (bf n ops s0 rs (k+bs.length)) (hp (k+bs.length))
 |[],k,rs0,hp0,hk,h=>⟨rs0,hp0,fun _ _=>rfl,fun _ _=>rfl,fun i o b h1 h2=>by simp at h2;omega,by
   have h:aN P hint n ops Q (ops.toList.drop k) (bf n ops s0 rs0 k) (hp0 k):=by
    cases hd:ops.toList.drop k<;>(rw[hd]at h;exact h)
   exact h⟩
 |b::bs,k,rs0,hp0,hk,h=>by
  simp only[List.length_cons]at hk
  have hlt:k<ops.size:=by omega
  have hget:ops[k]?=some ops[k]:=by simp[hlt]
  have hd:ops.toList.drop k=ops[k]::ops.toList.drop (k+1):=by
   rw[List.drop_eq_getElem_cons (by simpa using hlt)];simp
  rw[hd]at h
  have hdst:aY ops k=(ops[k]).dst:=by simp[aY,hget]
  have step:∃r H',uh P hint n ops a p bx B b k ops[k] (bf n ops s0 rs0 k) r (hp0 k) H'∧aZ P hint n ops a p bx B Q (k+1) bs (ops.toList.drop (k+1)) (bp n (bf n ops s0 rs0 k) (ops[k]).dst r) H':=by
   unfold uh
   unfold aZ at h
   by_cases hka:k=a
   ·rw[if_pos hka]at h
    refine⟨.ptr p 1 0 0,(hp0 k).set p bx,?_,h.2⟩
    rw[if_pos hka]
    exact⟨h.1,rfl,rfl⟩
   ·rw[if_neg hka]at h
    simp only[if_neg hka]
    match b,h with
    |some false,h=>
     obtain⟨r,H',h1,rfl,h3⟩:=jr (hdt k _ hget) h
     exact⟨r,_,⟨h1,rfl⟩,h3⟩
    |none,h=>
     obtain⟨r,H',h1,rfl,h3⟩:=jr (hdt k _ hget) h
     exact⟨r,_,⟨h1,rfl⟩,h3⟩
    |some true,⟨hg,h⟩=>
     by_cases hlta:k<a
     ·rw[if_pos hlta]at h
      obtain⟨r,H',h1,h2⟩:=eH (hdt k _ hget) h
      obtain⟨r',H'',⟨rfl,rfl,h3,h4,h5⟩,h6⟩:=eH (hdt k _ hget) h1
      exact⟨r',H',⟨iW hg h2,h4,fun _=>⟨iW hg h6,h3⟩⟩,h5⟩
     ·rw[if_neg hlta]at h
      obtain⟨r,H',⟨h1,h3⟩,h2⟩:=eH (hdt k _ hget) h
      exact⟨r,H',⟨iW hg h2,h1,fun hh=>absurd hh hlta⟩,h3⟩
  obtain⟨r,H',h1,h4⟩:=step
  let rs1:Nat→AV:=fun i=>if i=k then r else rs0 i
  let hp1:Nat→aa:=fun i=>if i=k+1 then H' else hp0 i
  have e1:rs1 k=r:=if_pos rfl
  have e2:hp1 (k+1)=H':=if_pos rfl
  have hst:∀(rs:Nat→AV) i,i≤k→(∀j,j<i→rs j=rs0 j)→bf n ops s0 rs i=bf n ops s0 rs0 i:=by
   intro rs i
   induction i with
   |zero=>intros;rfl
   |succ i ih=>
    intro hi hr
    simp only[bf,ih (by omega) fun j hj=>hr j (by omega),hr i (by omega)]
  have h5:aZ P hint n ops a p bx B Q (k+1) bs (ops.toList.drop (k+1)) (bf n ops s0 rs1 (k+1)) (hp1 (k+1)):=by
   rw[e2]
   simp only[bf,e1,hdst]
   rw[hst rs1 k (Nat.le_refl _) fun j hj=>if_neg (by omega)]
   exact h4
  obtain⟨rs,hp,g1,g2,g3,g4⟩:=kH hdt s0 bs (k+1) rs1 hp1 (by omega) h5
  have f1:∀i,i<k→rs i=rs0 i:=fun i hi=>by rw[g1 i (by omega)];exact if_neg (by omega)
  have f2:∀i,i≤k→hp i=hp0 i:=fun i hi=>by rw[g2 i (by omega)];exact if_neg (by omega)
  have f3:rs k=r:=by rw[g1 k (by omega)];exact e1
  have f4:hp (k+1)=H':=by rw[g2 (k+1) (by omega)];exact e2
  refine⟨rs,hp,f1,f2,fun i o b' hi hi2 ho hb=>?_,by rw[List.length_cons,show k+(bs.length+1)=k+1+bs.length from by omega];exact g4⟩
  rcases Nat.lt_or_ge k i with hki|hki
  ·refine g3 i o b' hki (by simp only[List.length_cons]at hi2;omega) ho ?_
   rwa[show i-k=(i-(k+1))+1 from by omega,List.getElem?_cons_succ]at hb
  ·obtain rfl:i=k:=by omega
   rw[hget]at ho
   cases ho
   rw[Nat.sub_self,List.getElem?_cons_zero]at hb
   cases hb
   rw[f2 i (Nat.le_refl _),f3,f4,hst rs i (Nat.le_refl _) fun j hj=>f1 j hj]
   exact h1
theorem fG.step{o:Oper}{H:aa}{s:Nat→AV}(h:fG P hint p bx o H):bX P hint n ops H s o (.ptr p 1 0 0) (H.set p bx):=by
 obtain⟨e,z,k,b,e',h1,h2,h3,h4,h5,h6,h7⟩:=h
 refine iW h2 fun K KP hk=>?_
 obtain⟨d,op,ty,ps,af,g⟩:=o
 simp only at h1 h2 h5
 subst h1 h2
 rw[vc,h3]
 refine⟨by rw[rS h3];exact h4,?_⟩
 rw[h5]
 exact⟨p,e',h7,by rw[←h6];exact hk⟩
end
def ry(hint:Nat→Bool)(ops:Array Oper)(bs:List (Option Bool))(a:Nat):Bool:=decide (a<bs.length)&&(List.range bs.length).all fun i=>i==a||match bs[i]?,ops[i]? with
 |some (some false),some o=>js hint false o
 |some none,some o=>js hint true o
 |some (some true),some _=>(decide (i<a)||cg ops 12 i a)&&(List.range i).all fun c=>c==a||bs[c]?==some (some false)||bs[c]?==some none||cg ops 12 i c
 |_,_=>false
section
variable {P:Program} {hint:Nat→Bool} {n:Nat} {ops:Array Oper} {Q:aQ}
theorem rr(bs:List (Option Bool))(a p:Nat)(bx:ay)(B:aa){H0 H:aa}{id:Nat}{s:Nat→AV}(hm:P.follows .mixedOrders=true)(hc:dK hint ops=true)(ht:dH ops bs.length=true)(hx:ry hint ops bs a=true)(hB:Ext B H)(hBp:∀o,B[p]?=some o→o.live=false)
  (h:aZ P hint n ops a p bx B Q 0 bs ops.toList s H):cE P hint n H0 (.region id ops true) Q s H:=by
 obtain⟨hms,htl⟩:=eA ht
 refine⟨hm,?_⟩
 obtain⟨rs,w,_,g2,g3,g4⟩:=kH (cf hc).Ir s bs 0 (fun _=> .top) (fun _=>H) (by omega) h
 have g20:w 0=H:=g2 0 (Nat.le_refl _)
 simp only[Nat.zero_add,Nat.sub_zero,Nat.zero_le,true_implies]at g3 g4
 unfold ry at hx
 rw[Bool.and_eq_true,List.all_eq_true]at hx
 obtain⟨ha,hx⟩:=hx
 have ha:a<bs.length:=by simpa using ha
 have hget:∀i,i<bs.length→∃o,ops[i]?=some o:=fun i hi=>⟨ops[i]'(by omega),by simp[show i<ops.size by omega]⟩
 have hbs:∀i (hi:i<bs.length),bs[i]?=some bs[i]:=fun i hi=>List.getElem?_eq_getElem hi
 let T:Nat→Bool:=fun i=>i !=a&&bs[i]?==some (some true)
 have TT:∀i,T i=true→i≠a∧bs[i]?=some (some true):=fun i h=>by
  have h:(i !=a&&bs[i]?==some (some true))=true:=h
  simpa using h
 have TF:∀i,i<bs.length→i≠a→T i=false→bs[i]?=some (some false)∨bs[i]?=some none:=fun i hi hia h=>by
  have h:(i !=a&&bs[i]?==some (some true))=false:=h
  rw[hbs i hi]at h⊢
  rcases hb:bs[i]with _|_|_
  ·exact .inr rfl
  ·exact .inl rfl
  ·rw[hb]at h;simp[hia]at h
 have say:∀i o,i<bs.length→ops[i]?=some o→uh P hint n ops a p bx B bs[i]! i o (bf n ops s rs i) (rs i) (w i) (w (i+1)):=fun i o hi ho=>g3 i o _ hi ho (by rw[hbs i hi];simp[hi])
 have sayT:∀i o,i<bs.length→ops[i]?=some o→T i=true→bX P hint n ops (w i) (bf n ops s rs i) o (rs i) (w (i+1))∧Ext B (w (i+1))∧(i<a→bX P hint n ops ((w i).set p bx) (bf n ops s rs i) o (rs i) ((w (i+1)).set p bx)∧(w (i+1))[p]?=(w i)[p]?):=by
  intro i o hi ho hT
  obtain⟨h1,h2⟩:=TT i hT
  have:=g3 i o _ hi ho h2
  unfold uh at this
  rwa[if_neg h1]at this
 have sayF:∀i o,i<bs.length→ops[i]?=some o→bs[i]?=some (some false)→i≠a→bX P hint n ops (w i) (bf n ops s rs i) o (rs i) (w i)∧w (i+1)=w i:=by
  intro i o hi ho h2 h1
  have:=g3 i o _ hi ho h2
  unfold uh at this
  rwa[if_neg h1]at this
 have sayN:∀i o,i<bs.length→ops[i]?=some o→bs[i]?=some none→i≠a→bX P hint n ops B (bf n ops s rs i) o (rs i) B∧w (i+1)=w i:=by
  intro i o hi ho h2 h1
  have:=g3 i o _ hi ho h2
  unfold uh at this
  rwa[if_neg h1]at this
 obtain⟨oa,hoa⟩:=hget a ha
 have sayA:fG P hint p bx oa (w a)∧rs a= .ptr p 1 0 0∧w (a+1)=(w a).set p bx:=by
  have:=g3 a oa _ ha hoa (hbs a ha)
  unfold uh at this
  rwa[if_pos rfl]at this
 have stay:∀i,i<bs.length→i≠a→T i=false→w (i+1)=w i:=by
  intro i hi hia hT
  obtain⟨o,ho⟩:=hget i hi
  rcases TF i hi hia hT with h|h
  ·exact(sayF i o hi ho h hia).2
  ·exact(sayN i o hi ho h hia).2
 have hext:∀j,j≤bs.length→Ext B (w j)∧Ext B ((w j).set p bx):=by
  have key:∀H:aa,Ext B H→Ext B (H.set p bx):=fun H hE i o ho hl=>by
   by_cases e:i=p
   ·subst e;rw[hBp o ho]at hl;cases hl
   ·rw[List.getElem?_set_ne (Ne.symm e)];exact hE i o ho hl
  intro j
  induction j with
  |zero=>intro _;rw[g20];exact⟨hB,key _ hB⟩
  |succ j ih=>
   intro hj
   obtain⟨o,ho⟩:=hget j (by omega)
   by_cases hja:j=a
   ·subst hja
    rw[sayA.2.2]
    exact⟨(ih (by omega)).2,key _ (ih (by omega)).2⟩
   ·cases hT:T j with
    |true=>have:=(sayT j o (by omega) ho hT).2.1;exact⟨this,key _ this⟩
    |false=>rw[stay j (by omega) hja hT];exact ih (by omega)
 let u:Nat→aa:=fun i=>if i≤a then(w i).set p bx else w i
 have u1:∀i,i≤a→u i=(w i).set p bx:=fun i hi=>if_pos hi
 have u2:∀i,a<i→u i=w i:=fun i hi=>if_neg (by omega)
 have ustay:∀i,i<bs.length→T i=false→u (i+1)=u i:=by
  intro i hi hT
  rcases Nat.lt_trichotomy i a with h|h|h
  ·rw[u1 i (by omega),u1 (i+1) (by omega),stay i hi (by omega) hT]
  ·subst h;rw[u1 i (Nat.le_refl _),u2 (i+1) (by omega),sayA.2.2]
  ·rw[u2 i h,u2 (i+1) (by omega),stay i hi (by omega) hT]
 have chain:∀(f:Nat→aa) (N:Nat),(∀i,i<N→T i=false→f (i+1)=f i)→∀q i,q≤N→i≤N→(∀c,c<N→T c=true→(c<q↔c<i))→f q=f i:=by
  intro f N hf
  have up:∀d q,q+d≤N→(∀c,c<N→T c=true→(c<q↔c<q+d))→f (q+d)=f q:=by
   intro d
   induction d with
   |zero=>intros;rfl
   |succ d ihd=>
    intro q hq hcc
    have h1:T (q+d)=false:=by
     cases h:T (q+d)with
     |false=>rfl
     |true=>have:=(hcc (q+d) (by omega) h).2 (by omega);omega
    rw[←Nat.add_assoc,hf (q+d) (by omega) h1]
    exact ihd q (by omega) fun c hcm hct=>⟨fun h=>by omega,fun h=>(hcc c hcm hct).2 (by omega)⟩
  intro q i hq hi hcc
  rcases Nat.le_total q i with h|h
  ·obtain⟨d,rfl⟩:=Nat.exists_eq_add_of_le h
   exact(up d q hi hcc).symm
  ·obtain⟨d,rfl⟩:=Nat.exists_eq_add_of_le h
   exact up d i hq fun c hcm hct=>(hcc c hcm hct).symm
 have hsu:=chain u bs.length ustay
 have hsw:=chain w a fun i hi hT=>stay i (by omega) (by omega) hT
 have hole:∀j,j≤a→(w j)[p]?=(w 0)[p]?:=by
  intro j
  induction j with
  |zero=>intro _;rfl
  |succ j ih=>
   intro hj
   obtain⟨o,ho⟩:=hget j (by omega)
   cases hT:T j with
   |true=>rw[((sayT j o (by omega) ho hT).2.2 (by omega)).2];exact ih (by omega)
   |false=>rw[stay j (by omega) (by omega) hT];exact ih (by omega)
 have chk:∀i o,i<bs.length→ops[i]?=some o→T i=true→(i<a∨cg ops 12 i a=true)∧∀c,c<i→T c=true→cg ops 12 i c=true:=by
  intro i o hi ho hT
  obtain⟨h1,h2⟩:=TT i hT
  have:=hx i (List.mem_range.2 hi)
  rw[h2,ho]at this
  simp only[Bool.or_eq_true,beq_iff_eq,h1,false_or,Bool.and_eq_true,decide_eq_true_eq,List.all_eq_true]at this
  refine⟨this.1,fun c hci hct=>?_⟩
  obtain⟨h3,h4⟩:=TT c hct
  have:=this.2 c (List.mem_range.2 hci)
  rw[h4]at this
  simpa[h3]using this
 refine oY (cf hc) bs.length hms htl s rs (fun L G=>∃q,q≤bs.length∧(∀c,c<bs.length→T c=true→(L c=true↔c<q))∧((L a=true∧G=u q)∨(L a=false∧q≤a∧G=w q))) ?_ ?_ ?_ ops.size (Array.replicate ops.size false) s H (by simp) ?_ ?_ ?_ ?_ ?_ ⟨0,Nat.zero_le _,fun c hcm hct=>?_,.inr ⟨?_,Nat.zero_le _,g20.symm⟩⟩
 ·rintro L L' G hL ⟨q,h1,h2,h3⟩
  exact⟨q,h1,fun c hcm hct=>by rw[←hL c hcm];exact h2 c hcm hct,by rw[←hL a ha];exact h3⟩
 ·rintro L G i o ⟨q,hqm,hql,hG⟩ him hgo hun hcl hbi
  have hnew:∀c,c≠i→(if c=i then true else L c)=L c:=fun c hc=>if_neg hc
  by_cases hia:i=a
  ·subst hia
   rcases hG with⟨hL,_⟩|⟨_,hqa,rfl⟩
   ·rw[hL]at hun;cases hun
   have e:o=oa:=Option.some.inj (hgo.symm.trans hoa)
   subst e
   obtain⟨e,z,k,b,e',k1,k2,k3,k4,k5,k6,k7⟩:=sayA.1
   have hA:fG P hint p bx o (w q):=⟨e,z,k,b,e',k1,k2,k3,k4,k5,k6,by rw[hole q hqa,←hole i (Nat.le_refl _)];exact k7⟩
   refine⟨_,by rw[sayA.2.1];exact hA.step,q,hqm,fun c hcm hct=>?_,.inl ⟨by simp,(u1 q hqa).symm⟩⟩
   show(if c=i then true else L c)=true↔c<q
   rw[hnew c (TT c hct).1]
   exact hql c hcm hct
  ·have hLa:(if a=i then true else L a)=L a:=if_neg (Ne.symm hia)
   cases hT:T i with
   |false=>
    have hS:bX P hint n ops G (bf n ops s rs i) o (rs i) G:=by
     have hfl:=hx i (List.mem_range.2 him)
     have hEx:Ext B G:=by
      rcases hG with⟨_,rfl⟩|⟨_,_,rfl⟩
      ·rcases Nat.lt_or_ge a q with h|h
       ·rw[u2 q h];exact(hext q hqm).1
       ·rw[u1 q h];exact(hext q hqm).2
      ·exact(hext q hqm).1
     rcases TF i him hia hT with hk|hk
     ·rw[hk,hgo]at hfl
      simp only[Bool.or_eq_true,beq_iff_eq,hia,false_or]at hfl
      exact dI hfl (fun hf=>by cases hf) (sayF i o him hgo hk hia).1
     ·rw[hk,hgo]at hfl
      simp only[Bool.or_eq_true,beq_iff_eq,hia,false_or]at hfl
      exact dI (first:=true) hfl (fun _=>hEx) (sayN i o him hgo hk hia).1
    refine⟨G,hS,q,hqm,fun c hcm hct=>?_,by simp only[hLa];exact hG⟩
    show(if c=i then true else L c)=true↔c<q
    rw[hnew c (by intro e;rw[e,hT]at hct;cases hct)]
    exact hql c hcm hct
   |true=>
    obtain⟨hra,hrc⟩:=chk i o him hgo hT
    have breach:∀c o',ops[c]?=some o'→(∀j,aP o' j=true→L j=true)→∀i',cg ops 12 c i'=true→L i'=true:=fun c o' hoc hb i' hr=>eT hcl 12 c o' hoc hb i' hr
    have hbef:∀c,c<bs.length→T c=true→(L c=true↔c<i):=by
     intro c hcm hct
     refine⟨fun hl=>?_,fun hlt=>breach i o hgo hbi c (hrc c hlt hct)⟩
     rcases Nat.lt_trichotomy c i with h|h|h
     ·exact h
     ·subst h;rw[hun]at hl;cases hl
     ·exfalso
      obtain⟨oc,hgc⟩:=hget c hcm
      have:=breach c oc hgc (fun j hj=>hcl c oc j hgc hl hj) i ((chk c oc hcm hgc hct).2 i h hT)
      rw[hun]at this
      cases this
    have heq:∀c,c<bs.length→T c=true→(c<q↔c<i):=fun c hcm hct=>(hql c hcm hct).symm.trans (hbef c hcm hct)
    have hq':∀c,c<bs.length→T c=true→((if c=i then true else L c)=true↔c<i+1):=fun c hcm hct=>by
     by_cases e:c=i
     ·subst e;simp
     ·rw[if_neg e]
      exact(hbef c hcm hct).trans ⟨fun h=>by omega,fun h=>by omega⟩
    obtain⟨s1,_,s3⟩:=sayT i o him hgo hT
    rcases hG with⟨hL,rfl⟩|⟨hL,hqa,rfl⟩
    ·have hu:=hsu q i hqm (by omega) heq
     rw[hu]
     rcases Nat.lt_or_ge i a with h|h
     ·refine⟨u (i+1),by rw[u1 i (by omega),u1 (i+1) (by omega)];exact(s3 h).1,i+1,by omega,hq',.inl ⟨by show(if a=i then true else L a)=true;rw[hLa];exact hL,rfl⟩⟩
     ·refine⟨u (i+1),by rw[u2 i (by omega),u2 (i+1) (by omega)];exact s1,i+1,by omega,hq',.inl ⟨by show(if a=i then true else L a)=true;rw[hLa];exact hL,rfl⟩⟩
    ·have hilt:i<a:=by
      rcases hra with h|h
      ·exact h
      ·have:=breach i o hgo hbi a h
       rw[hL]at this;cases this
     have hw:=hsw q i hqa (by omega) fun c hcm hct=>heq c (by omega) hct
     rw[hw]
     exact⟨_,s1,i+1,by omega,hq',.inr ⟨by show(if a=i then true else L a)=false;rw[hLa];exact hL,by omega,rfl⟩⟩
 ·rintro L G hall ⟨q,hqm,hql,hG⟩
  rcases hG with⟨_,rfl⟩|⟨hL,_⟩
  ·rw[hsu q bs.length hqm (Nat.le_refl _) fun c hcm hct=>⟨fun _=>hcm,fun _=>(hql c hcm hct).1 (hall c hcm)⟩,u2 _ ha]
   exact g4
  ·rw[hall a ha]at hL;cases hL
 ·exact Nat.le_trans List.countP_le_length (by simp)
 ·intro t j hj
  have hjl:=dP hj
  rw[if_neg (by simp[Array.getD,hjl])]
 ·intro t _;rfl
 ·intro j oj i hoj hl
  have hjl:=(Array.getElem?_eq_some_iff.1 hoj).1
  simp[Array.getD,hjl]at hl
 ·intro i hi hi2
  simp[Array.getD,hi2]
 ·have:c<ops.size:=by omega
  simp[Array.getD,this]
 ·simp[Array.getD,show a<ops.size by omega]
end
section
variable (P:Program) (hint:Nat→Bool) (n:Nat) (ops:Array Oper) (a p:Nat) (bx:ay) (B:aa) (Q:aQ) (i:Nat) (bs:List (Option Bool)) (rest:List Oper) (s:Nat→AV) (H:aa)
def rV(d:Option Tmp)(H0:aa):AV→aa→Prop:=fun r H'=>H'=B∧aZ P hint n ops a p bx B Q (i+1) bs rest (bp n s d r) H0
def sF(d:Option Tmp)(H0:aa):AV→aa→Prop:=fun r H'=>H'=H0∧aZ P hint n ops a p bx B Q (i+1) bs rest (bp n s d r) H'
def mT(d:Option Tmp)(H0:aa)(r:AV)(H':aa):AV→aa→Prop:=fun r' H''=>r'=r∧H''=H'.set p bx∧H'[p]?=H0[p]?∧Ext B H'∧aZ P hint n ops a p bx B Q (i+1) bs rest (bp n s d r) H'
def mI(o:Oper)(H0:aa):AV→aa→Prop:=fun r H'=>if i<a then aB P hint s (H0.set p bx) o (mT P hint n ops a p bx B Q i bs rest s o.dst H0 r H') BN else Ext B H'∧aZ P hint n ops a p bx B Q (i+1) bs rest (bp n s o.dst r) H'
theorem A3(d:Option Tmp)(H0:aa)(r:AV):rV P hint n ops a p bx B Q i bs rest s d H0 r H=(H=B∧aZ P hint n ops a p bx B Q (i+1) bs rest (bp n s d r) H0):=rfl
theorem A0(d:Option Tmp)(H0:aa)(r:AV):sF P hint n ops a p bx B Q i bs rest s d H0 r H=(H=H0∧aZ P hint n ops a p bx B Q (i+1) bs rest (bp n s d r) H):=rfl
theorem BB(d:Option Tmp)(H0:aa)(r:AV)(H':aa)(r':AV):mT P hint n ops a p bx B Q i bs rest s d H0 r H' r' H=(r'=r∧H=H'.set p bx∧H'[p]?=H0[p]?∧Ext B H'∧aZ P hint n ops a p bx B Q (i+1) bs rest (bp n s d r) H'):=rfl
theorem zU(d:Option Tmp)(op:Op)(ty:TypeId)(ps:String)(af:Array Edge)(g:Option (Nat×Bool))(H0:aa)(r:AV):mI P hint n ops a p bx B Q i bs rest s ⟨d,op,ty,ps,af,g⟩ H0 r H=(if i<a then aB P hint s (H0.set p bx) ⟨d,op,ty,ps,af,g⟩ (mT P hint n ops a p bx B Q i bs rest s d H0 r H) BN else Ext B H∧aZ P hint n ops a p bx B Q (i+1) bs rest (bp n s d r) H):=rfl
theorem tJ(l:List Oper):aZ P hint n ops a p bx B Q i [] l s H=aN P hint n ops Q l s H:=by cases l<;>rfl
theorem yY(l:List Oper):aZ P hint n ops a p bx B Q i bs l.toArray.toList s H=aZ P hint n ops a p bx B Q i bs l s H:=rfl
theorem Bj(d:Option Tmp)(op:Op)(ty:TypeId)(ps:String)(af:Array Edge):aZ P hint n ops a p bx B Q i (some false::bs) (⟨d,op,ty,ps,af,none⟩::rest) s H=if i=a then fG P hint p bx ⟨d,op,ty,ps,af,none⟩ H∧aZ P hint n ops a p bx B Q (i+1) bs rest (bp n s d (.ptr p 1 0 0)) (H.set p bx)else aB P hint s H ⟨d,op,ty,ps,af,none⟩ (sF P hint n ops a p bx B Q i bs rest s d H) BN:=by
 simp only[aZ,cN]<;>rfl
theorem z6(d:Option Tmp)(op:Op)(ty:TypeId)(ps:String)(af:Array Edge):aZ P hint n ops a p bx B Q i (none::bs) (⟨d,op,ty,ps,af,none⟩::rest) s H=if i=a then fG P hint p bx ⟨d,op,ty,ps,af,none⟩ H∧aZ P hint n ops a p bx B Q (i+1) bs rest (bp n s d (.ptr p 1 0 0)) (H.set p bx)else aB P hint s B ⟨d,op,ty,ps,af,none⟩ (rV P hint n ops a p bx B Q i bs rest s d H) BN:=by
 simp only[aZ,cN]<;>rfl
theorem Bw(d:Option Tmp)(op:Op)(ty:TypeId)(ps:String)(af:Array Edge):aZ P hint n ops a p bx B Q i (some true::bs) (⟨d,op,ty,ps,af,none⟩::rest) s H=if i=a then fG P hint p bx ⟨d,op,ty,ps,af,none⟩ H∧aZ P hint n ops a p bx B Q (i+1) bs rest (bp n s d (.ptr p 1 0 0)) (H.set p bx)else aB P hint s H ⟨d,op,ty,ps,af,none⟩ (mI P hint n ops a p bx B Q i bs rest s ⟨d,op,ty,ps,af,none⟩ H) BN:=by
 simp only[aZ,true_and]
 by_cases h:i<a
 ·have e:mI P hint n ops a p bx B Q i bs rest s ⟨d,op,ty,ps,af,none⟩ H=fun r H'=>aB P hint s (H.set p bx) ⟨d,op,ty,ps,af,none⟩ (mT P hint n ops a p bx B Q i bs rest s d H r H') BN:=by
   funext r H';exact if_pos h
  rw[e,if_pos h];rfl
 ·have e:mI P hint n ops a p bx B Q i bs rest s ⟨d,op,ty,ps,af,none⟩ H=fun r H'=>Ext B H'∧aZ P hint n ops a p bx B Q (i+1) bs rest (bp n s d r) H':=by
   funext r H';exact if_neg h
  rw[e,if_neg h];rfl
end
section
variable {P:Program} {hint:Nat→Bool} {n:Nat} {ops:Array Oper} {a p:Nat} {bx:ay} {B:aa} {Q:aQ} {i:Nat} {bs:List (Option Bool)} {rest:List Oper} {s:Nat→AV}
@[congr] theorem Jp {l:List Oper} {H H':aa} (h:nf H=H'):aZ P hint n ops a p bx B Q i bs l s H=aZ P hint n ops a p bx B Q i bs l s H':=by rw[←h];rfl
@[congr] theorem G9 {d:Option Tmp} {H0 H H':aa} {r r':AV} (g:nf r=r') (h:nf H=H'):rV P hint n ops a p bx B Q i bs rest s d H0 r H=rV P hint n ops a p bx B Q i bs rest s d H0 r' H':=by rw[←g,←h];rfl
@[congr] theorem G6 {d:Option Tmp} {H0 H H':aa} {r r':AV} (g:nf r=r') (h:nf H=H'):sF P hint n ops a p bx B Q i bs rest s d H0 r H=sF P hint n ops a p bx B Q i bs rest s d H0 r' H':=by rw[←g,←h];rfl
@[congr] theorem G7 {d:Option Tmp} {H0 H1 H H':aa} {r0 r r':AV} (g:nf r=r') (h:nf H=H'):mT P hint n ops a p bx B Q i bs rest s d H0 r0 H1 r H=mT P hint n ops a p bx B Q i bs rest s d H0 r0 H1 r' H':=by rw[←g,←h];rfl
@[congr] theorem Ha {o:Oper} {H0 H H':aa} {r r':AV} (g:nf r=r') (h:nf H=H'):mI P hint n ops a p bx B Q i bs rest s o H0 r H=mI P hint n ops a p bx B Q i bs rest s o H0 r' H':=by rw[←g,←h];rfl
end
attribute [go_sem] A3 A0 BB zU tJ yY Bj z6 Bw
inductive Hb (H:aa):AV→AV→Prop
 |d (x:D):Hb H (.d x) (.d x)
 |sl (id k ver off len:Nat) (e:TypeId) (es:List (List D)) (ho:H[id]?=some (.arr e k ver es)):Hb H (.sl id ver off len) (.d (.list false ((es.drop off).take len)))
inductive sI (H:aa):List AV→List AV→Prop
 |nil:sI H [] []
 |cons {x y:AV} {xs ys:List AV} (h:Hb H x y) (t:sI H xs ys):sI H (x::xs) (y::ys)
theorem sI.len{H:aa}{xs ys:List AV}(h:sI H xs ys):xs.length=ys.length:=by
 induction h with
 |nil=>rfl
 |cons _ _ ih=>simp[ih]
theorem sI.get{H:aa}{xs ys:List AV}(h:sI H xs ys):∀i (h1:i<xs.length) (h2:i<ys.length),Hb H xs[i] ys[i]:=by
 induction h with
 |nil=>intro i h1;simp at h1
 |cons h t ih=>
  intro i h1 h2
  cases i with
  |zero=>exact h
  |succ i=>exact ih i (by simpa using h1) (by simpa using h2)
def uM(w:World):Addr→Prop:=fun a=>∃v,w.cell? a=some v
theorem Hb.ra{H:aa}{φ:aK}{N:Addr→Prop}{w:World}(hR:Rel H φ N w){x y:AV}{v:Value}(h:Hb H x y)(hx:RA H φ N w x v):RA [] (fun _=>none) (uM w) w y v:=by
 cases h with
 |d x=>
  cases hx with
  |d hd=>exact .d (hd.mono (fun a ha=>hR.live a ha) fun _ _ _ h=>h)
 |sl id k ver off len e es ho=>
  cases hx with
  |sl _ _ _ _ A l m' o ho' hv' hp=>
  rw[ho]at ho';cases ho'
  obtain⟨rfl,h1,h2⟩:=hp rfl
  simp only[ay.len]at h1
  by_cases hl0:l=0
  ·subst hl0
   simp only[List.take_zero]
   exact .d (.nil _ _ (by rcases h2 with⟨_,_,_,rfl⟩|⟨B,c,_,_,rfl,_⟩;exact fun _=>rfl;exact fun h=>by cases h))
  have hobj:=hR.obj id _ ho
  cases hobj with
  |arr _ _ _ _ hk hes hbl=>
  rcases h2 with⟨_,h3,_⟩|⟨B,c,h3,h4,rfl,rfl⟩
  ·omega
  rcases hbl with⟨g0,_⟩|⟨B',cap,cur,g1,g2,g3,g4,g5,g6⟩
  ·rw[g0]at h3;cases h3
  obtain⟨e1,e2⟩:=Prod.mk.inj (Option.some.inj (g1.symm.trans h3))
  subst e1 e2
  have hel:((es.drop off).take l).length=l:=by simp;omega
  have key:=RD.list (N:=uM w) (w:=w) false ((es.drop off).take l) ⟨B',off* k,none⟩ (cap-off) k (fun i j=>cur.getD ((off+i)* k+j) undef) (by rw[hel];omega)
   (fun e he=>hes e (List.mem_of_mem_drop (List.mem_of_mem_take he))) (fun i j hi hj=>by
    rw[hel]at hi
    have hlt:(off+i)* k+j<es.length* k:=cW hj (by omega)
    have hlt2:(off+i)* k+j<cur.size:=by have:=Nat.mul_le_mul_right k g3;omega
    have hpos:off* k+(i* k+j)=(off+i)* k+j:=by rw[Nat.add_mul];omega
    rw[add_plain,hpos]
    have hc:w.cell? ⟨B',(off+i)* k+j,none⟩=some (cur.getD ((off+i)* k+j) undef):=by simp[World.cell?,g2,Array.getD,hlt2]
    exact⟨⟨_,hc⟩,hc⟩) (fun i hi j hj=>by
    rw[hel]at hi
    simp only[List.getElem_take,List.getElem_drop]at hj⊢
    obtain⟨u,hu,hd⟩:=g6 (off+i) (by omega) j hj
    have hget:cur.getD ((off+i)* k+j) undef=u:=by
     rw[Array.getD_eq_getD_getElem?,hu];rfl
    simp only[hget]
    exact hd.mono (fun a ha=>hR.live a ha) fun _ _ _ h=>h)
  rw[hel]at key
  exact .d key
def tK:AV→Bool
 | .d (.v _)=>true
 |_=>false
def wb:AV→Bool
 | .d (.v _)=>true
 | .a7 cs=>cs.all tK
 | .agg cs=>cs.all tK
 |_=>false
theorem vI{H H':aa}{φ φ':aK}{N N':Addr→Prop}{w w':World}{x:AV}{v:Value}(hf:tK x=true)(h:RA H φ N w x v):RA H' φ' N' w' x v:=by
 cases h<;>try (simp[tK]at hf;done)
 rename_i hd
 cases hd<;>try (simp[tK]at hf;done)
 rename_i hx
 exact .d (.v _ hx)
theorem CY{H H':aa}{φ φ':aK}{N N':Addr→Prop}{w w':World}{x:AV}{v:Value}(hf:wb x=true)(h:RA H φ N w x v):RA H' φ' N' w' x v:=by
 cases h with
 |a7 cs vs hl g=>exact .a7 cs vs hl fun i h1 h2=>vI (List.all_eq_true.1 hf _ (List.getElem_mem h1)) (g i h1 h2)
 |agg cs vs hl g=>exact .agg cs vs hl fun i h1 h2=>vI (List.all_eq_true.1 hf _ (List.getElem_mem h1)) (g i h1 h2)
 |d hd=>
  cases hd<;>try (simp[wb]at hf;done)
  rename_i hx
  exact .d (.v _ hx)
 |_=>simp[wb]at hf
theorem ag.borrow{P:Program}{f:FuncId}{xs bs:List AV}{H:aa}{r:AV}(hb:sI H xs bs)(h:ag P f bs [] (.ok r) [])(hf:wb r=true):ag P f xs H (.ok r) H:=by
 intro φ N w vals hR hA
 have hR0:Rel [] (fun _=>none) (uM w) w:=⟨fun id o h=>by simp at h,fun i j B c c' h=>by simp at h,fun a h=>h,fun a id B c _ h=>by simp at h⟩
 have hA0:p8 [] (fun _=>none) (uM w) w bs vals:=⟨by rw[←hb.len];exact hA.1,fun i h1 h2=>(hb.get i (by rw[hb.len];exact h1) h1).ra hR (hA.2 i (by rw[hb.len];exact h1) h2)⟩
 have h4:=h _ _ w vals hR0 hA0
 have go:∀e' w',(∃φ' N',Rel [] φ' N' w'∧au [] (fun _=>none) (uM w) w [] φ' N' w'∧pS [] φ' N' w' (.ok r) e')→∃φ' N',Rel H φ' N' w'∧au H φ N w H φ' N' w'∧pS H φ' N' w' (.ok r) e':=by
  rintro e' w' ⟨φ',N',hR',hS',hE⟩
  have hk:∀k,k<w.heap.size→w'.heap[k]?=w.heap[k]?:=fun k hk=>hS'.cM k hk fun id c h=>by simp at h
  have hlt:∀id B c,id<H.length→φ id=some (B,c)→B<w.heap.size:=by
   intro id B c hid hp
   have hob:=hR.obj id _ (List.getElem?_eq_getElem hid)
   have hs:∀{x},w.heap[B]?=some x→B<w.heap.size:=fun hx=>by
    rcases Nat.lt_or_ge B w.heap.size with h|h
    ·exact h
    ·simp[Array.getElem?_eq_none h]at hx
   generalize H[id]=o at hob
   cases hob with
   |arr e k ver es hk hes h=>
    rcases h with⟨h0,_⟩|⟨B',cap,cur,h1,h2,_⟩
    ·rw[hp]at h0;cases h0
    ·rw[hp]at h1;cases h1;exact hs h2
   |box e k ver n cs B' cap cur _ _ hp' hb'=>rw[hp]at hp';cases hp';exact hs hb'
   |mp kk es B' cap ents clock hp' hb'=>rw[hp]at hp';cases hp';exact hs hb'
   |dead ver hp'=>rw[hp]at hp';cases hp'
   |iter m since seen B' cap bm cm kk es hp' hb'=>rw[hp]at hp';cases hp';exact hs hb'
   |lp r s B' cap hp' hb'=>rw[hp]at hp';cases hp';exact hs hb'
  have hS:au H φ N w H φ N w':=⟨Nat.le_refl _,hS'.os,hS'.tape,hS'.output,hS'.size,fun k h _=>hk k h,fun id B c hid hp _=>⟨id,c,hid,hp⟩,fun _ h=>h,
   fun _ o h=>⟨o,h,rfl,Nat.le_refl _,fun _=>⟨rfl,Nat.le_refl _⟩,fun kk es h=>⟨rfl,es,h⟩⟩,fun _ h=> .inl h⟩
  refine⟨φ,N,⟨fun id o ho=>?_,hR.inj,fun a ha=>?_,hR.apart⟩,hS,?_⟩
  ·exact(hR.obj id o ho).cM hR hS rfl fun B c hp=>hk B (hlt id B c (aj ho) hp)
  ·obtain⟨v,hv⟩:=hR.live a ha
   exact⟨v,hS.cell hR a v ha hv⟩
  ·cases e' with
   |returned v=>exact CY hf hE
   |_=>exact hE.elim
 rcases h4 with⟨h5,h6⟩|⟨v,w',h5,h6⟩
 ·exact .inl ⟨h5,h6.mono go⟩
 ·exact .inr ⟨v,w',h5,go _ _ h6⟩
theorem ae.K6{P:Program}{f:FuncId}{xs bs:List AV}{H:aa}{K:AV→aa→Prop}{KP:Value→aa→Prop}{r:AV}(hb:sI H xs bs)(h:ag P f bs [] (.ok r) [])(hf:wb r=true)(hk:K r H):ae P f xs H K KP:=ae.ok (ag.borrow hb h hf) hk
end Go.Proofs.YtggohfhfocgilaaGreatAw
namespace Go.Proofs.YtggohfhfocgilaaGreat
open Go.Proofs.YtggohfhfocgilaaGreatAw Go.RowKit
theorem AS(H xs ys:aa):Ext (H++xs) (H++(xs++ys)):=by rw[←List.append_assoc];exact Ext.app _ _
theorem Cc{H T G:aa}{s:Nat→AV}(e:TypeId)(k:Nat)(hk:0<k)(h:G=H++T):ak H s G (fun t=>pZ G H.length (s t)) (H++[.arr e k 0 []]):=by
 subst h
 exact(ak.drop H T s).trans (ak.more _ _ e k hk)
theorem tC.Ko{m:Nat}{In:aa→Prop}{Ix:AX→aa→Prop}{H ob0:aa}{s:Nat→AV}(dC T:aa){H3:aa}(e:H3=H++(dC++T))(hk:dC.length=ob0.length)(hm:m=(H++ob0).length)(hb:dC.all (ay.below m)=true)
  (hi:Ix .ret (H++dC)):tC m In Ix (H++ob0) .ret s H3:=by
 obtain⟨s3,H4,h1,h2,h3⟩:=tC.cut (In:=fun X=>X=H++dC) (Ix:=fun _ _=>False) (s:=s) dC T e hk hm hb rfl
 subst h3
 exact⟨s3,_,h1,h2,hi⟩
theorem wx(S:List (List Sg))(l:List Sg):bg S++[[.list false (l.map Sg.ds)]]=bg (S++[l]):=by simp[bg]
theorem rL{ks:List Int}:∀{R:List (List al)},ju ks R=0→∀r∈R,iC r ks=0
 |[],_,r,h=>by cases h
 |x::R,h,r,hr=>by
  unfold ju at h
  by_cases h0:iC x ks=0
  ·rw[if_neg (by simpa using h0)]at h
   rcases List.mem_cons.1 hr with rfl|hr
   ·exact h0
   ·exact rL h r hr
  ·rw[if_pos h0]at h;exact absurd h h0
theorem yU{R:List (List al)}{ks:List Int}(h:dm R ks=0)(r:List al)(hr:r∈R):r.length=ks.length:=by
 unfold dm at h
 split at h
 ·cases h
 ·split at h
  ·cases h
  ·have:=rL h r hr
   unfold iC at this
   split at this
   ·cases this
   ·rename_i hh;simpa using hh
theorem vo{l:List Int}{n:Int}(h:dU l n=true)(x:Int)(hx:x∈l):0≤x∧x<n:=by
 unfold dU at h
 simp only[Bool.not_eq_true',List.any_eq_false,decide_eq_true_eq]at h
 have:=h x hx
 omega
theorem vi(R:List (List al))(ks cs key:List Int)(w:Int)(n0 n1 n2 n3:Bool)(H:aa)(hR:R.length≤1000000000)(hr:∀r∈R,r.length≤1000000000)(hk:ks.length≤1000000000)(hcl:cs.length≤1000000000)(hkl:key.length≤1000000000)(hI:∀r∈R,∀v∈r,iJ v.i)(he:dm R ks=0)(hb:¬uy ks cs key):
  ag Tryz.prog 34 [.d (.list n0 (bU R)),.d (.list n1 (ints ks)),.d (.list n2 (ints cs)),.d (.list n3 (ints key)),iA w] H
   (.ok (if jU (oG R key) ks cs w≠0 then .a7 [.agg fW,iA (jU (oG R key) ks cs w)]else .a7 [(Pj.mk cs key R.length (fe (oG R key) ks cs w)).av,iA 0])) H:=by
 have hc:=fun H=>jK R ks n0 n1 H (by omega) (fun r h=>by have:=hr r h;omega) (by omega)
 have hw1:=fun H=>gF cs n2 ks.length H (by omega)
 have hw2:=fun H=>gF key n3 ks.length H (by omega)
 have ho:=fun H=>CI.qM n2 cs H hcl
 have hcl1:=fun H=>nA cs n2 H (by omega)
 have hcl2:=fun H=>nA key n3 H (by omega)
 have hby:=fun H=>E7 R key n0 n3 H hR hr (by omega)
 have hcn:decide cs.Nodup=false↔¬cs.Nodup:=by simp
 have g1:¬cs.length=0:=fun h=>hb (.inl h)
 have g2:¬8<key.length:=fun h=>hb (.inr (.inl h))
 have g3:dU cs ks.length=true:=by cases h:dU cs ks.length;exact absurd (.inr (.inr (.inl h))) hb;rfl
 have g4:dU key ks.length=true:=by cases h:dU key ks.length;exact absurd (.inr (.inr (.inr (.inl h)))) hb;rfl
 have g5:decide cs.Nodup=true:=by cases h:decide cs.Nodup;exact absurd (.inr (.inr (.inr (.inr (hcn.1 h))))) hb;rfl
 rw[he]at hc
 rw[g3]at hw1
 rw[g4]at hw2
 rw[g5]at ho
 have hQl:(oG R key).length=R.length:=St.aW _
 have hQm:∀r,r∈oG R key↔r∈R:=fun r=>St.fL (kb key).ord
 have hQr:∀r∈oG R key,r.length=ks.length:=fun r h=>yU he r ((hQm r).1 h)
 have hQI:∀r∈oG R key,∀v∈r,iJ v.i:=fun r h=>hI r ((hQm r).1 h)
 have hcr:∀c∈cs,0≤c∧c<ks.length:=fun c h=>vo g3 c h
 generalize oG R key=Q at*
 refine ag.cA (hint:=fun t=>t==2000000||t==1000024||t==1000026) Tryz.func34 (by kernel_rfl) rfl [.cell 10 36,.cell 11 68] (by kernel_rfl) (by simp[Tryz.ntmps34]) ?_
 rw[Tryz.ntmps34]
 simp -implicitDefEqProofs only[↓reduceIte,go_sem,ab,Nat.reduceAdd,Nat.reduceLT,Nat.reduceEqDiff,Nat.reduceBEq,reduceCtorEq]
 refine ae.ok (hc _) ?_
 simp -implicitDefEqProofs only[↓reduceIte,go_sem,ab,Nat.reduceAdd,Nat.reduceLT,Nat.reduceEqDiff,Nat.reduceBEq,reduceCtorEq,ao,show ¬((cs.length:Int)=0) by omega,show ¬(8:Int)<key.length by omega]
 refine ae.ok (hw1 _) ?_
 simp -implicitDefEqProofs only[↓reduceIte,go_sem,ab,Nat.reduceLT,Nat.reduceEqDiff,reduceCtorEq,ao]
 refine ae.ok (hw2 _) ?_
 simp -implicitDefEqProofs only[↓reduceIte,go_sem,Nat.reduceLT,Nat.reduceEqDiff,reduceCtorEq]
 refine ae.ok (ho _) ?_
 simp -implicitDefEqProofs only[↓reduceIte,go_sem,Nat.reduceAdd,Nat.reduceLT,Nat.reduceEqDiff,Nat.reduceBEq,reduceCtorEq]
 refine ae.ok (hcl1 _) ?_
 simp -implicitDefEqProofs only[↓reduceIte,go_sem,Nat.reduceLT,Nat.reduceEqDiff]
 refine ae.ok (hcl2 _) ?_
 simp -implicitDefEqProofs only[↓reduceIte,go_sem,aq,Nat.reduceAdd,Nat.reduceLT,Nat.reduceLeDiff,Nat.reduceEqDiff,Nat.reduceBEq,reduceCtorEq,cr]
 refine ae.ok (hby _) ?_
 simp -implicitDefEqProofs only[↓reduceIte,go_sem,Nat.reduceAdd,Nat.reduceLT,Nat.reduceEqDiff,Nat.reduceBEq,ao]
 refine aU (fun k s H'=>H'=H++[.box 23 1 0 1 [.d (.list n1 (ints ks))],.box 3 1 0 1 [iA w],.box 36 4 0 1 fW,.box 68 1 0 1 [iA 0],.box 36 4 0 1 [.d (.list false (ints cs)),.d (.list false (ints key)),iA R.length,.sl (H.length+5) k 0 k],.arr 110 1 k (bg (fe Q ks (cs.take k) w))]∧(∀x∈(cs.take k).flatMap fun c=>(bk Q ks w c).map (·.2),x=0)∧s 6= .ptr H.length 0 0 0∧s 9= .ptr (H.length+1) 0 0 0∧s 10= .ptr (H.length+2) 0 0 0∧s 11= .ptr (H.length+3) 0 0 0∧s 13= .ptr (H.length+4) 0 0 0∧s 14= .d (.list false (bU Q))∧s 69= .d (.list n2 (ints cs))∧s 70=iA cs.length∧s 71=iA k) cs.length (by omega) (ak.df _ _ (H.length+4) 36 4 0 1 [.d (.list false (ints cs)),.d (.list false (ints key)),iA R.length,.d (.v (.slice none 0 0))] 3 _ 110 1 (by decide) (by simp -implicitDefEqProofs only[go_sem]) rfl rfl) ?_ ?_ ?_
 ·refine⟨?_,?_,?_⟩
  ·simp -implicitDefEqProofs only[go_sem,Nat.reduceAdd,List.take_zero,fe,bg,fW]
  ·intro x hx;simp at hx
  ·simp -implicitDefEqProofs only[↓reduceIte,go_sem,Nat.reduceLT,Nat.reduceEqDiff]
 ·rintro k s H' hk' hw ⟨rfl,hp,t6,t9,t10,t11,t13,t14,t69,t70,t71⟩
  have hy:=bD cs k hk'
  have hcm:=hcr cs[k] (List.getElem_mem hk')
  have e1:cs.take (k+1)=cs.take k++[cs[k]]:=List.take_succ_eq_append_getElem hk'
  have e2:cs=cs.take k++cs[k]::cs.drop (k+1):=by rw[←List.drop_eq_getElem_cons hk',List.take_append_drop]
  generalize hcc:cs[k]=c at*
  simp -implicitDefEqProofs only[↓reduceIte,go_sem,aq,Nat.reduceAdd,Nat.reduceLT,Nat.reduceEqDiff,Nat.reduceBEq,t14,t69,t70,t71,hk',hy]
  refine ae.ok (xH false Q _) ?_
  simp -implicitDefEqProofs only[go_sem,Nat.reduceAdd]
  have hWl:(bg (fe Q ks (cs.take k) w)).length=k:=by simp[bg,fe];omega
  have hW:bg (fe Q ks (cs.take (k+1)) w)=bg (fe Q ks (cs.take k) w)++[[.list false (((bk Q ks w c).map (·.1)).map Sg.ds)]]:=by rw[e1,wx];simp[fe]
  generalize bg (fe Q ks (cs.take k) w)=W at*
  generalize hW2:bg (fe Q ks (cs.take (k+1)) w)=W2 at*
  refine fM (fun t=>t==22||t==1000020) (fun j Hk=>Hk=H++[.box 23 1 0 1 [.d (.list n1 (ints ks))],.box 3 1 0 1 [iA w],.box 36 4 0 1 fW,.box 68 1 0 1 [iA 0],.box 36 4 0 1 [.d (.list false (ints cs)),.d (.list false (ints key)),iA R.length,.sl (H.length+5) k 0 k],.arr 110 1 k W,.box 3 1 0 1 [iA c],.box 110 1 0 1 [.sl (H.length+10) j 0 j],cB false Q,nB 256,.arr 113 12 j ((((bk Q ks w c).take j).map (·.1)).map Sg.ds)]∧∀x∈(bk Q ks w c).take j,x.2=0)
   (fun e Hx=>∃j L,e= .ret∧Hx=H++[.box 23 1 0 1 [.d (.list n1 (ints ks))],.box 3 1 0 1 [iA w],.box 36 4 0 1 fW,.box 68 1 0 1 [iA (jU Q ks cs w)],.box 36 4 0 1 [.d (.list false (ints cs)),.d (.list false (ints key)),iA R.length,.sl (H.length+5) k 0 k],.arr 110 1 k W,.box 3 1 0 1 [iA c],.box 110 1 0 1 [.sl (H.length+10) j 0 j],cB false Q,nB 256,.arr 113 12 j L]∧jU Q ks cs w≠0)
   (by kernel_rfl) (by kernel_rfl) (ak.df _ _ (H.length+7) 110 1 0 1 [.d (.v (.slice none 0 0))] 0 _ 113 12 (by decide) (by simp -implicitDefEqProofs only[go_sem]) rfl rfl) (by simp -implicitDefEqProofs only[↓reduceIte,go_sem,Nat.reduceLT]) (Df false Q (H.length+8) (H.length+9) (by omega)) ?_ ?_ ?_ ?_ ?_ ?_
  ·intro v hv
   obtain⟨u,_,rfl⟩:=List.mem_map.1 hv
   exact⟨rfl,fun w hw=>by rw[List.mem_singleton.1 hw];rfl⟩
  ·refine⟨?_,fun x hx=>by simp at hx⟩
   simp -implicitDefEqProofs only[go_sem,Nat.reduceAdd,List.take_zero]
  ·rintro j _ ⟨rfl,_⟩
   exact⟨by simp -implicitDefEqProofs only[go_sem],by simp -implicitDefEqProofs only[go_sem,Nat.reduceAdd]⟩
  ·rintro j hj _ ⟨rfl,hq⟩
   rw[zo]
   rw[mr]at hj
   have hjl:=BR.1 hj
   have hpc:(bk Q ks w c)[j]?=some (kJ (jz c (zu Q j)) (ks.getD c.toNat 0) w):=by simp[bk,qC,hj]
   have hpl:(zu Q j).length≤256:=by unfold zu;rw[List.length_take];omega
   have hpm:∀r∈zu Q j,r∈Q:=fun r h=>List.mem_of_mem_drop (List.mem_of_mem_take h)
   obtain⟨cn,rfl⟩:=Int.eq_ofNat_of_zero_le hcm.1
   have hcn2:cn<ks.length:=by omega
   have hkd:ks.getD (cn:Int).toNat 0=ks[cn]:=by simp[List.getD,hcn2]
   have hkx:=bD ks cn hcn2
   rw[hkd]at hpc
   generalize ks[cn]=kd at*
   have hpr:∀r∈zu Q j,r.length=ks.length:=fun r h=>hQr r (hpm r h)
   have hpI:∀v∈jz cn (zu Q j),iJ v.i:=fun v hv=>by
    obtain⟨r,h1,rfl⟩:=List.mem_map.1 hv
    have hl:=hpr r h1
    have:iu r (cn:Int)=r[cn]'(by omega):=by simp[iu,List.getD,show cn<r.length by omega];intro h;omega
    rw[this]
    exact hQI r (hpm r h1) _ (List.getElem_mem _)
   generalize hpp:zu Q j=p at*
   have hmk:=fun G:aa=>Ae (jz cn p) kd w hpI (by simp[jz];omega) G
   have hLl:(((List.take j (bk Q ks w cn)).map (·.1)).map Sg.ds).length=j:=by
    rw[List.length_map,List.length_map,List.length_take]
    have:=(List.getElem?_eq_some_iff.1 hpc).1
    omega
   generalize hL:((List.take j (bk Q ks w cn)).map (·.1)).map Sg.ds=L at*
   simp -implicitDefEqProofs only[↓reduceIte,go_sem,Nat.reduceAdd,Nat.reduceLT,Nat.reduceEqDiff,Nat.reduceBEq,cr]
   refine aU (fun i s G=>G=(H++[.box 23 1 0 1 [.d (.list n1 (ints ks))],.box 3 1 0 1 [iA w],.box 36 4 0 1 fW,.box 68 1 0 1 [iA 0],.box 36 4 0 1 [.d (.list false (ints cs)),.d (.list false (ints key)),iA R.length,.sl (H.length+5) k 0 k],.arr 110 1 k W,.box 3 1 0 1 [iA cn],.box 110 1 0 1 [.sl (H.length+10) j 0 j],cB false Q,nB 256,.arr 113 12 j L])++[.arr 100 3 i ((jz cn (p.take i)).map al.enc)]∧s 6= .ptr H.length 0 0 0∧s 9= .ptr (H.length+1) 0 0 0∧s 10= .ptr (H.length+2) 0 0 0∧s 11= .ptr (H.length+3) 0 0 0∧s 16= .ptr (H.length+6) 0 0 0∧s 17= .ptr (H.length+7) 0 0 0∧s 19= .sl (H.length+11) i 0 i∧s 78= .d (.list false (bU p))∧s 79=iA p.length∧s 80=iA i) p.length (by omega) (ak.eg _ _ 19 100 3 (by decide) (by simp -implicitDefEqProofs only[↓reduceIte,go_sem,Nat.reduceLT,Nat.reduceEqDiff]) _) ?_ ?_ ?_
   ·refine⟨?_,?_⟩
    ·simp -implicitDefEqProofs only[go_sem,List.take_zero,jz]
    ·simp -implicitDefEqProofs only[↓reduceIte,go_sem,Nat.reduceAdd,Nat.reduceLT,Nat.reduceEqDiff,t6,t9,t10,t11]
   ·rintro i s G hi hw3 ⟨rfl,t6,t9,t10,t11,t16,t17,t19,t78,t79,t80⟩
    have hx:=kp p i hi
    have hrl:=hpr p[i] (List.getElem_mem hi)
    have e3:(jz cn (p.take (i+1))).map al.enc=(jz cn (p.take i)).map al.enc++[(iu p[i] cn).enc]:=by rw[List.take_succ_eq_append_getElem hi];unfold jz;rw[List.map_append,List.map_append];rfl
    have hvl:((jz cn (p.take i)).map al.enc).length=i:=by simp[jz];omega
    have hat:iu p[i] (cn:Int)=p[i][cn]'(by omega):=by simp[iu,List.getD,show cn<p[i].length by omega];intro h;omega
    have hvx:(p[i].map al.enc)[cn]?=some (iu p[i] cn).enc:=by rw[hat,List.getElem?_map,List.getElem?_eq_getElem (by omega)];rfl
    have hrl2:cn<p[i].length:=by omega
    rw[e3]
    clear hat
    generalize (jz cn (p.take i)).map al.enc=VV at*
    generalize iu p[i] (cn:Int)=v at*
    generalize p[i]=r at*
    simp -implicitDefEqProofs only[↓reduceIte,go_sem,ab,Nat.reduceAdd,Nat.reduceLT,Nat.reduceLeDiff,Nat.reduceEqDiff,Nat.reduceBEq,t16,t19,t78,t79,t80,hi,hx,hvx,hvl,al.enc]
    refine⟨by omega,by omega,cl.same ⟨rfl,?_⟩⟩
    simp -implicitDefEqProofs only[↓reduceIte,go_sem,Nat.reduceLT,Nat.reduceEqDiff,t6,t9,t10,t11,t16,t17,t78,t79,show IntKind.i64.wrap ((i:Int)+1)=(i:Int)+1 from wrap64_in _ (by omega) (by omega)]
   ·rintro s G ⟨rfl,t6,t9,t10,t11,t16,t17,t19,t78,t79,t80⟩
    simp -implicitDefEqProofs only[↓reduceIte,go_sem,Nat.reduceAdd,Nat.reduceLT,Nat.reduceBEq,t79,t80]
    rw[List.take_of_length_le (Nat.le_refl _)]
    have hcl3:(jz cn p).length=p.length:=by simp[jz]
    generalize jz (cn:Int) p=V at*
    refine⟨_,_,Cc (T:=[_]) 113 12 (by decide) (by rw[List.append_assoc];rfl),?_⟩
    simp -implicitDefEqProofs only[go_sem]
    generalize kJ V kd w=mp at*
    obtain⟨sg,e⟩:=mp
    simp only at hmk
    have hti:TI Tryz.prog 113=some ((.agg #[.int .i64 0,.int .i64 0,.int .i64 0,.int .i64 0,.int .i64 0,.int .i64 0,.string ⟨#[]⟩,.int .i64 0,.int .i64 0,.string ⟨#[]⟩,.slice none 0 0,.slice none 0 0]:Value),12,144):=by kernel_rfl
    refine rr [some false,none,none,none,none,none,some true,some false,some false,some false,some true,some true,some false] 10 (H.length+11) (.box 113 12 1 1 qI) (H++[.box 23 1 0 1 [.d (.list n1 (ints ks))],.box 3 1 0 1 [iA w],.box 36 4 0 1 fW,.box 68 1 0 1 [iA 0],.box 36 4 0 1 [.d (.list false (ints cs)),.d (.list false (ints key)),iA R.length,.sl (H.length+5) k 0 k],.arr 110 1 k W,.box 3 1 0 1 [iA cn],.box 110 1 0 1 [.sl (H.length+10) j 0 j],cB false Q,nB 256,.arr 113 12 j L]) K.mixed (by kernel_rfl) (by kernel_rfl) (by kernel_rfl) (AS _ [_,_,_,_,_,_,_,_,_,_,_] [_]) (by intro o ho;simp at ho) ?_
    simp -implicitDefEqProofs only[↓reduceIte,go_sem,ab,Nat.reduceAdd,Nat.reduceLT,Nat.reduceEqDiff,reduceCtorEq,t6,t9,t16,t19,hkx,mG,List.length_map,hcl3]
    refine ae.ok (hmk _) ?_
    simp -implicitDefEqProofs only[↓reduceIte,go_sem,Nat.reduceAdd,Nat.reduceLT,Nat.reduceEqDiff]
    refine ae.ok (hmk _) ?_
    obtain⟨sk,sw,⟨zr,zn,mn,mx⟩,ns,bd⟩:=sg
    simp -implicitDefEqProofs only[↓reduceIte,go_sem,aq,Nat.reduceAdd,Nat.reduceLT,Nat.reduceEqDiff,Sg.cs]
    refine⟨AS _ [_,_,_,_,_,_,_,_,_,_,_] [_],⟨_,_,_,_,113,rfl,rfl,hti,⟨by decide,by kernel_rfl,by kernel_rfl⟩,rfl,rfl,by simp -implicitDefEqProofs only[go_sem]⟩,?_⟩
    simp -implicitDefEqProofs only[↓reduceIte,go_sem,Nat.reduceAdd,Nat.reduceLT,Nat.reduceEqDiff,Nat.reduceBEq,qI,jE]
    refine⟨AS _ [_,_,_,_,_,_,_,_,_,_,_] [_],?_⟩
    by_cases h3:e=0
    ·subst h3
     simp -implicitDefEqProofs only[↓reduceIte,go_sem,ab,aq,Nat.reduceAdd,Nat.reduceLT,Nat.reduceLeDiff,Nat.reduceEqDiff,Nat.reduceBEq,t17]
     refine⟨hLl,by omega,by omega,?_⟩
     refine tC.cut [.box 23 1 0 1 [.d (.list n1 (ints ks))],.box 3 1 0 1 [iA w],.box 36 4 0 1 fW,.box 68 1 0 1 [iA 0],.box 36 4 0 1 [.d (.list false (ints cs)),.d (.list false (ints key)),iA R.length,.sl (H.length+5) k 0 k],.arr 110 1 k W,.box 3 1 0 1 [iA cn],.box 110 1 0 1 [.sl (H.length+10) (j+1) 0 (j+1)],cB false Q,nB 256,.arr 113 12 (j+1) (L++[Sg.ds ⟨sk,sw,⟨zr,zn,mn,mx⟩,ns,bd⟩])] _ (by rw[hLl];rfl) rfl (by simp -implicitDefEqProofs only[go_sem,Nat.reduceAdd]) (by simp -implicitDefEqProofs only[go_sem,Nat.reduceLT,fW]) ?_
     have e4:(bk Q ks w cn).take (j+1)=(bk Q ks w cn).take j++[(⟨sk,sw,⟨zr,zn,mn,mx⟩,ns,bd⟩,0)]:=by rw[List.take_add_one,hpc];rfl
     refine⟨?_,?_⟩
     ·rw[e4,List.map_append,List.map_append,hL];rfl
     ·rw[e4]
      intro x hx
      rcases List.mem_append.1 hx with hx|hx
      ·exact hq x hx
      ·rw[List.mem_singleton.1 hx]
    ·have hfe:jU Q ks cs w=e:=by
      obtain⟨hj2,hj3⟩:=List.getElem?_eq_some_iff.1 hpc
      have h4:=List.drop_eq_getElem_cons hj2
      rw[hj3]at h4
      have h5:(bk Q ks w cn).map (·.2)=((bk Q ks w cn).take j).map (·.2)++e::((bk Q ks w cn).drop (j+1)).map (·.2):=by
       conv=>lhs;rw[←List.take_append_drop j (bk Q ks w cn),h4,List.map_append,List.map_cons]
      unfold jU
      rw[e2,List.flatMap_append,List.flatMap_cons,h5,List.append_assoc,List.cons_append,←List.append_assoc]
      refine wY ?_ h3
      intro x hx
      rcases List.mem_append.1 hx with hx|hx
      ·exact hp x hx
      ·obtain⟨y,hy,rfl⟩:=List.mem_map.1 hx
       exact hq y hy
     simp -implicitDefEqProofs only[↓reduceIte,go_sem,aq,Nat.reduceAdd,Nat.reduceLT,Nat.reduceEqDiff,h3,t10,t11,fW]
     refine tC.Ko [.box 23 1 0 1 [.d (.list n1 (ints ks))],.box 3 1 0 1 [iA w],.box 36 4 0 1 fW,.box 68 1 0 1 [iA e],.box 36 4 0 1 [.d (.list false (ints cs)),.d (.list false (ints key)),iA R.length,.sl (H.length+5) k 0 k],.arr 110 1 k W,.box 3 1 0 1 [iA cn],.box 110 1 0 1 [.sl (H.length+10) j 0 j],cB false Q,nB 256,.arr 113 12 j L] _ rfl rfl (by simp -implicitDefEqProofs only[go_sem,Nat.reduceAdd]) (by simp -implicitDefEqProofs only[go_sem,Nat.reduceLT,fW]) ?_
     exact⟨j,L,rfl,by rw[hfe];rfl,by rw[hfe];exact h3⟩
  ·rintro _ ⟨rfl,hq⟩
   have hpl:(bk Q ks w c).length=zC Q.length:=by simp[bk,qC]
   rw[mr,←hpl,List.take_length]at hq
   rw[mr,←hpl,List.take_length]
   have hq2:∀x∈(bk Q ks w c).map (·.2),x=0:=fun x hx=>by obtain⟨y,hy,rfl⟩:=List.mem_map.1 hx;exact hq y hy
   have hp2:∀x∈(cs.take (k+1)).flatMap fun c=>(bk Q ks w c).map (·.2),x=0:=by
    rw[e1,List.flatMap_append,List.flatMap_cons,List.flatMap_nil,List.append_nil]
    intro x hx
    rcases List.mem_append.1 hx with hx|hx
    ·exact hp x hx
    ·exact hq2 x hx
   have hLl:(((bk Q ks w c).map (·.1)).map Sg.ds).length=(bk Q ks w c).length:=by simp
   generalize ((bk Q ks w c).map (·.1)).map Sg.ds=L at*
   generalize (bk Q ks w c).length=n at*
   simp -implicitDefEqProofs only[go_sem,Nat.reduceAdd,Nat.reduceLT,Nat.reduceBEq]
   refine⟨_,_,ak.kF _ _ (H.length+7) 1 0 1 0 (H.length+10) n 0 n 12 110 113 [.sl (H.length+10) n 0 n] L (by simp -implicitDefEqProofs only[go_sem]) rfl (by simp -implicitDefEqProofs only[go_sem]),?_⟩
   have hLt:=mG L n hLl
   simp -implicitDefEqProofs only[↓reduceIte,go_sem,ab,aq,Nat.reduceAdd,Nat.reduceLT,Nat.reduceLeDiff,Nat.reduceEqDiff,Nat.reduceBEq,hLt,t13,hWl,t71]
   refine⟨by omega,by omega,?_⟩
   rw[hW]
   refine cl.cut [.box 23 1 0 1 [.d (.list n1 (ints ks))],.box 3 1 0 1 [iA w],.box 36 4 0 1 fW,.box 68 1 0 1 [iA 0],.box 36 4 0 1 [.d (.list false (ints cs)),.d (.list false (ints key)),iA R.length,.sl (H.length+5) (k+1) 0 (k+1)],.arr 110 1 (k+1) (W++[[.list false L]])] _ 6 rfl rfl (by simp -implicitDefEqProofs only[go_sem,Nat.reduceLT,fW]) ?_
   refine⟨rfl,hp2,?_⟩
   simp -implicitDefEqProofs only[↓reduceIte,go_sem,Nat.reduceLT,Nat.reduceEqDiff,t6,t9,t10,t11,t13,t14,t69,t70,hw]
  ·rintro _ _ ⟨j,L,rfl,rfl,h2⟩
   rw[if_pos h2]
   generalize jU Q ks cs w=e at*
   simp -implicitDefEqProofs only[go_sem]
   refine cV.ret ?_
   simp -implicitDefEqProofs only[↓reduceIte,go_sem,ab,Nat.reduceAdd,Nat.reduceLeDiff,Nat.reduceEqDiff,reduceCtorEq,t10,t11,bH,cX,fW]
 ·rintro s H' ⟨rfl,hp,t6,t9,t10,t11,t13,t14,t69,t70,t71⟩
  rw[List.take_length]at hp
  rw[List.take_length]
  have hfe:jU Q ks cs w=0:=tD hp
  rw[if_neg (by rw[hfe];simp)]
  have hWl:(bg (fe Q ks cs w)).length=cs.length:=by simp[bg,fe]
  have hWt:=mG _ _ hWl
  unfold Pj.av Pj.ds
  simp only[List.map_cons,List.map_nil]
  generalize bg (fe Q ks cs w)=W at*
  generalize hm:cs.length=m at*
  simp -implicitDefEqProofs only[↓reduceIte,go_sem,Nat.reduceAdd,Nat.reduceLT,Nat.reduceBEq,t70,t71]
  refine⟨_,_,ak.kF _ _ (H.length+4) 4 0 1 3 (H.length+5) m 0 m 1 36 110 [.d (.list false (ints cs)),.d (.list false (ints key)),iA R.length,.sl (H.length+5) m 0 m] W (by simp -implicitDefEqProofs only[go_sem]) rfl (by simp -implicitDefEqProofs only[go_sem]),?_⟩
  simp -implicitDefEqProofs only[↓reduceIte,go_sem,ab,aq,Nat.reduceAdd,Nat.reduceLT,Nat.reduceEqDiff,hWt,t13,t10,t11,fW]
  refine cV.ret ?_
  simp -implicitDefEqProofs only[↓reduceIte,go_sem,ab,Nat.reduceAdd,Nat.reduceLeDiff,Nat.reduceEqDiff,reduceCtorEq,t10,t11,bH,cX]
theorem mo{R:List (List al)}{ks:List Int}(h:dm R ks=0):0<ks.length∧ks.length≤8∧(∀k∈ks,1≤k∧k≤3)∧R.length≤4096∧ju ks R=0:=by
 unfold dm at h
 split at h
 ·cases h
 ·rename_i h1
  split at h
  ·cases h
  ·refine⟨by omega,by omega,fun k hk=>?_,by omega,h⟩
   have h2:=fun hh=>h1 (.inr (.inr hh))
   rw[List.any_eq_true]at h2
   have h3:¬(k<1∨3<k):=fun hh=>h2 ⟨k,hk,decide_eq_true hh⟩
   omega
theorem wq(R:List (List al))(ks cs key:List Int)(w:Int)(n0 n1 n2 n3:Bool)(H:aa)(hR:R.length≤1000000000)(hr:∀r∈R,r.length≤1000000000)(hk:ks.length≤100000000000000)(hcl:cs.length≤1000000000)(hkl:key.length≤1000000000)(hI:∀r∈R,∀v∈r,iJ v.i):
  ag Tryz.prog 34 [.d (.list n0 (bU R)),.d (.list n1 (ints ks)),.d (.list n2 (ints cs)),.d (.list n3 (ints key)),iA w] H (.ok (.a7 [(gG R ks cs key w).1.av,iA (gG R ks cs key w).2])) H:=by
 unfold gG
 by_cases he:dm R ks=0
 ·rw[if_neg (by simpa using he)]
  have hk:=(mo he).2.1
  by_cases hb:uy ks cs key
  ·rw[if_pos hb]
   exact(ui R ks cs key w n0 n1 n2 n3 H hR hr (by omega) hcl hkl he hb).kf (.cons r9 (.cons (.refl _) .nil))
  ·rw[if_neg hb]
   have h:=vi R ks cs key w n0 n1 n2 n3 H hR hr (by omega) hcl hkl hI he hb
   by_cases hf:jU (oG R key) ks cs w=0
   ·rw[if_neg (by simpa using hf)]at h⊢
    exact h
   ·rw[if_pos hf]at h⊢
    exact h.kf (.cons r9 (.cons (.refl _) .nil))
 ·rw[if_pos he]
  exact(vd R ks cs key w n0 n1 n2 n3 H hR hr hk he).kf (.cons r9 (.cons (.refl _) .nil))
abbrev Atom.av(a:Atom):AV:= .agg [iA a.dN,iA a.op,iA a.val.kind,iA a.val.i,sA a.val.s]
theorem vK(l:List Atom)(p:Atom→Bool)(g:FuncId)(caps:List AV)(n1:Bool)(H:aa)(hl:l.length≤9223372036854775807)(hf:∀v∈l,ag Tryz.prog g ([v.av]++caps) H (.ok (bA (p v))) H):
  ag Tryz.prog 111 [.d (.list n1 (l.map Atom.enc)),.fn g caps] H (.ok (iA (kD p l))) H:=by
 refine ag.ai (hint:=(fun _=>false)) Tryz.func111 (by kernel_rfl) rfl [4] (by kernel_rfl) (by decide) (by simp[Tryz.ntmps111]) ?_
 rw[Tryz.ntmps111]
 simp -implicitDefEqProofs only[↓reduceIte,go_sem,Nat.reduceLT,Int.reduceNeg,reduceCtorEq]
 refine aU (fun k s H'=>H'=H∧(∀i (hi:i<k) (hl:i<l.length),p l[i]=false)∧s 0= .d (.list n1 (l.map Atom.enc))∧s 1= .fn g caps∧s 7=iA l.length∧s 8=iA k) l.length hl (ak.refl _ _) ?_ ?_ ?_
 ·refine⟨rfl,fun i hi=>by omega,?_⟩
  simp -implicitDefEqProofs only[↓reduceIte,go_sem,Nat.reduceLT,Nat.reduceEqDiff,reduceCtorEq]
 ·rintro k s H' hk hw ⟨rfl,hp,h0,h1,h7,h8⟩
  have hx:=List.getElem?_eq_getElem hk
  have hit:p l[k]=true→kD p l=k:=fun h=>oS hp hk h
  have hpp:p l[k]=false→∀i (hi:i<k+1) (hl:i<l.length),p l[i]=false:=fun h0 i hi hl'=>by
   rcases Nat.lt_or_ge i k with h|h
   ·exact hp i h hl'
   ·obtain rfl:i=k:=by omega
    exact h0
  have hfk:=hf l[k] (List.getElem_mem hk)
  generalize l[k]=v at hx hit hpp hfk
  simp -implicitDefEqProofs only[↓reduceIte,go_sem,Nat.reduceAdd,Nat.reduceLT,Nat.reduceEqDiff,reduceCtorEq,h0,h1,h7,h8,hk,hx,Atom.enc]
  refine ae.ok hfk ?_
  cases hv:p v with
  |true=>
   simp -implicitDefEqProofs only[↓reduceIte,go_sem,Nat.reduceLT,Nat.reduceEqDiff]
   refine an.aI ?_
   simp -implicitDefEqProofs only[↓reduceIte,go_sem,Nat.reduceLT,hit hv]
  |false=>
   simp -implicitDefEqProofs only[↓reduceIte,go_sem,Nat.reduceLT,Nat.reduceEqDiff,h8]
   refine cl.same ⟨rfl,hpp hv,?_⟩
   simp -implicitDefEqProofs only[↓reduceIte,go_sem,Nat.reduceLT,Nat.reduceEqDiff,reduceCtorEq,h0,h1,h7,hw]
 ·rintro s H' ⟨rfl,hp,h0,h1,h7,h8⟩
  simp -implicitDefEqProofs only[↓reduceIte,go_sem,Nat.reduceLT,Int.reduceNeg,h7,h8]
  refine an.aI ?_
  simp -implicitDefEqProofs only[↓reduceIte,go_sem,Nat.reduceLT,Int.reduceNeg,m5 fun i hi=>hp i hi hi]
theorem fO(l:List Atom)(p:Atom→Bool)(g:FuncId)(caps:List AV)(n1:Bool)(H:aa)(hl:l.length≤9223372036854775807)(hf:∀v∈l,ag Tryz.prog g ([v.av]++caps) H (.ok (bA (p v))) H):
  ag Tryz.prog 66 [.d (.list n1 (l.map Atom.enc)),.fn g caps] H (.ok (bA (l.any p))) H:=by
 refine ag.ai (hint:=(fun _=>false)) Tryz.func66 (by kernel_rfl) rfl [4] (by kernel_rfl) (by decide) (by simp[Tryz.ntmps66]) ?_
 rw[Tryz.ntmps66]
 simp -implicitDefEqProofs only[↓reduceIte,go_sem,Nat.reduceLT,Nat.reduceEqDiff,reduceCtorEq]
 refine ae.ok (vK l p g caps n1 H hl hf) ?_
 simp -implicitDefEqProofs only[↓reduceIte,go_sem,Nat.reduceLT,pD]
 refine an.aI ?_
 simp -implicitDefEqProofs only[↓reduceIte,go_sem,Nat.reduceLT,Bool.decide_eq_true]
end Go.Proofs.YtggohfhfocgilaaGreat

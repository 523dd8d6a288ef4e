/- rle.last, Runs: what they do. rle.Bytes: what it does. dict.ToCodes, dict.Of: what they do. dict.Of: what it does. seg.codecs: what it does. delta.Steps, delta.Sorted, delta.Bytes: what they do. delta.Sorted, delta.Bytes: what they do. seg.Body, best: what they do. null.Count, Of, Bytes: what they do. A range over a function, as it is walked. Arguments: bytes and numbers. null.some, its iterator; slices.AppendSeq, Collect; null.Split, Join. slices.AppendSeq, Collect of values. null.Split, Join: what they do. seg.Make: what it does. rle.next: what it does. rle.ToRuns: what it does. math/bits.Mul64: what it does. math/bits.Mul; slices.Repeat of one value: what they do. rle.Spread, Of; the codec's reader: what they do. delta.Of: what it does. Drawn regions in which a variable is laid down at any time: its place is kept ahead of the region. seg.Seg.Vals: what it does. What is laid down is read, and the other way round: plain facts about bytes. Zig and zag. Wrapping as a step of whole rounds. Values' bytes: what is laid down is read, and the other way round (plain). Dict's bytes: what is laid down is read, and the other way round (plain). Steps and sums; what is laid down is read, and the other way round. What a segment's reader answers, in plain terms: good values. -/
import Derived.Laws.Bits64b
import Derived.Lib.Mul64
import Derived.Test.YtmbagpfmfiegkaaGreatM04
set_option maxHeartbeats 8000000
set_option maxRecDepth 100000
set_option linter.all false
namespace Go.Proofs.YtmbagpfmfiegkaaGreat
open Go.Proofs.YtmbagpfmfiegkaaGreatAw Go.RowKit
def eP(r:Nat×ai):List D:=[.v (.int .i64 r.1),.v (.int .i64 r.2.kind),.v (.int .i64 r.2.i),.v (.string r.2.s)]
def iZ(r:Nat×ai):AV:= .agg [iA r.1,iA r.2.kind,iA r.2.i,sA r.2.s]
def zR:Nat×ai:=(0,zV)
def cE(R:List (Nat×ai)):Nat×ai:=R.getLast?.getD zR
def gQ(R:List (Nat×ai))(v:ai):List (Nat×ai):=if R≠[]∧(cE R).2=v then R.dropLast++[((cE R).1+1,v)]else R++[(1,v)]
def cU(l:List ai):List (Nat×ai):=l.foldl gQ []
theorem lR(l:List ai)(k:Nat)(h:k<l.length):cU (l.take (k+1))=gQ (cU (l.take k)) l[k]:=by
 unfold cU
 rw[List.take_succ_eq_append_getElem h,List.foldl_append];rfl
theorem Dc(R:List (Nat×ai))(v:ai):(gQ R v).length≤R.length+1:=by
 unfold gQ
 split
 ·rw[List.length_append,List.length_dropLast,List.length_singleton];omega
 ·simp
theorem kN(l:List ai):∀k,(cU (l.take k)).length≤k:=by
 intro k
 induction k with
 |zero=>simp[cU]
 |succ k ih=>
  rcases Nat.lt_or_ge k l.length with h|h
  ·rw[lR l k h]
   have:=Dc (cU (l.take k)) l[k]
   omega
  ·rw[List.take_of_length_le (by omega)]
   rw[List.take_of_length_le h]at ih
   omega
theorem CR{R:List (Nat×ai)}{k:Nat}(h:∀r∈R,r.1≤k)(v:ai):∀r∈gQ R v,r.1≤k+1:=by
 intro r hr
 unfold gQ at hr
 split at hr
 ·rename_i hc
  rcases List.mem_append.1 hr with hr|hr
  ·have:=h r (List.dropLast_subset R hr);omega
  ·simp at hr
   have hm:cE R∈R:=by
    unfold cE
    rw[List.getLast?_eq_getElem?]
    have hp:0<R.length:=List.length_pos_iff.2 hc.1
    rw[List.getElem?_eq_getElem (by omega)]
    exact List.getElem_mem _
   have:=h _ hm
   rw[hr];simp only;omega
 ·rcases List.mem_append.1 hr with hr|hr
  ·have:=h r hr;omega
  ·simp at hr;rw[hr];simp
theorem kT(l:List ai):∀k,∀r∈cU (l.take k),r.1≤k:=by
 intro k
 induction k with
 |zero=>intro r hr;simp[cU]at hr
 |succ k ih=>
  rcases Nat.lt_or_ge k l.length with h|h
  ·rw[lR l k h]
   exact CR ih _
  ·rw[List.take_of_length_le (by omega)]
   rw[List.take_of_length_le h]at ih
   intro r hr
   have:=ih r hr;omega
theorem rR(R:List (Nat×ai))(G:aa)(id ver:Nat)(hl:R.length≤1000000000000)(h:G[id]?=some (.arr 165 4 ver (R.map eP))):
  ag Tryz.prog 148 [.sl id ver 0 R.length] G (.ok (.bf [iZ (cE R),bA (decide (R≠[]))])) G:=by
 have hlt:=ao h
 refine ag.bL (hint:=fun _=>false) Tryz.func148 (by kernel_rfl) rfl [.cell 2 165,.tmp 3] (by kernel_rfl) (by simp[Tryz.ntmps148]) ?_
 rw[Tryz.ntmps148]
 by_cases h0:R=[]
 ·subst h0
  simp only[List.length_nil,List.map_nil]at h⊢
  simp -implicitDefEqProofs only[↓reduceIte,go_sem,ah,ak,Nat.reduceAdd,Nat.reduceLT,Nat.reduceEqDiff,reduceCtorEq,eq_self,h,List.getElem?_append_left hlt,List.length_nil]
  refine bp.ret ?_
  simp -implicitDefEqProofs only[↓reduceIte,go_sem,ah,Nat.reduceAdd,Nat.reduceLT,Nat.reduceLeDiff,Nat.reduceEqDiff,eq_self,aK,bH,iZ,cE,zR,zV,dA,List.getLast?_nil,Option.getD_none]
 ·have hpos:0<R.length:=List.length_pos_iff.2 h0
  obtain⟨n,hn⟩:∃n,R.length=n+1:=⟨R.length-1,by omega⟩
  have hget:R[n]?=some (cE R):=by
   unfold cE
   rw[List.getLast?_eq_getElem?,hn,Nat.add_sub_cancel,List.getElem?_eq_getElem (by omega)]
   rfl
  generalize hm:R.length=m at*
  have hw:IntKind.i64.wrap ((m:Int)-1)=(n:Int):=by rw[wrap64_in _ (by omega) (by omega)];omega
  generalize cE R=q at*
  simp -implicitDefEqProofs only[↓reduceIte,go_sem,ah,ak,Nat.reduceAdd,Nat.reduceLT,Nat.reduceEqDiff,reduceCtorEq,eq_self,h,List.getElem?_append_left hlt,hw,hget,show((m:Int)=0)=False from eq_false (by omega),show((n:Int)<(m:Int))=True from eq_true (by omega),show((0:Int)≤(n:Int))=True from eq_true (by omega),Option.map_some,eP,List.take_succ_cons,List.take_zero,List.map_cons,List.map_nil,List.length_cons,List.length_nil]
  refine bp.ret ?_
  simp -implicitDefEqProofs only[↓reduceIte,go_sem,ah,Nat.reduceAdd,Nat.reduceLT,Nat.reduceLeDiff,Nat.reduceEqDiff,eq_self,aK,bH,iZ,h0,not_false_eq_true,decide_true]
theorem Eh{R:List (Nat×ai)}{v:ai}(h:¬(R≠[]∧(cE R).2=v)):(gQ R v).map eP=R.map eP++[[.v (.int .i64 1),.v (.int .i64 v.kind),.v (.int .i64 v.i),.v (.string v.s)]]:=by
 unfold gQ
 rw[if_neg h]
 simp[eP]
theorem Fg{R:List (Nat×ai)}{v:ai}{n:Nat}(h:R≠[]∧(cE R).2=v)(hn:R.length=n+1):R[n]?=some (cE R)∧
  (R.map eP).set n [.v (.int .i64 (((cE R).1+1:Nat):Int)),.v (.int .i64 v.kind),.v (.int .i64 v.i),.v (.string v.s)]=(gQ R v).map eP∧(gQ R v).length=n+1:=by
 have hg:R[n]?=some (cE R):=by
  unfold cE
  rw[List.getLast?_eq_getElem?,hn,Nat.add_sub_cancel,List.getElem?_eq_getElem (by omega)]
  rfl
 refine⟨hg,?_,?_⟩
 ·unfold gQ
  rw[if_pos h]
  have hd:R=R.dropLast++[cE R]:=by
   rw[List.dropLast_eq_take,hn,Nat.add_sub_cancel]
   conv=>lhs;rw[←List.take_append_drop n R]
   obtain⟨h1,h2⟩:=List.getElem?_eq_some_iff.1 hg
   rw[List.drop_eq_getElem_cons h1,h2,List.drop_eq_nil_of_le (by omega)]
  have hl:R.dropLast.length=n:=by rw[List.length_dropLast,hn];rfl
  generalize cE R=q at*
  rw[List.map_append]
  generalize R.dropLast=D at*
  subst hd
  rw[List.map_append,List.set_append_right n _ (by rw[List.length_map,hl];exact Nat.le_refl _),List.length_map,hl,Nat.sub_self]
  rfl
 ·unfold gQ
  rw[if_pos h,List.length_append,List.length_dropLast,hn];rfl
theorem B4(l:List ai)(nn:Bool)(hl:l.length≤1000000000)(H:aa):
  ag Tryz.prog 116 [.d (.list nn (l.map ai.enc))] H (.ok (.d (.list false ((cU l).map eP)))) H:=by
 have hlen:=kN l
 have hcnt:=kT l
 refine ag.aj (hint:=(fun _=>false)) Tryz.func116 (by kernel_rfl) rfl [2] (by kernel_rfl) (by decide) (by simp[Tryz.ntmps116]) ?_
 rw[Tryz.ntmps116]
 simp -implicitDefEqProofs only[↓reduceIte,go_sem,Nat.reduceLT,reduceCtorEq,eq_self]
 refine bl (fun k s H'=>∃ver,H'=H++[.arr 165 4 ver ((cU (l.take k)).map eP)]∧s 3= .sl H.length ver 0 (cU (l.take k)).length∧s 8= .d (.list nn (l.map ai.enc))∧s 9=iA l.length∧s 10=iA k) l.length (by omega) (ar.eU _ _ 3 165 4 (by decide) (by simp -implicitDefEqProofs only[↓reduceIte,go_sem,Nat.reduceLT,Nat.reduceEqDiff,eq_self]) _) ?_ ?_ ?_
 ·refine⟨0,rfl,?_⟩
  simp -implicitDefEqProofs only[↓reduceIte,go_sem,Nat.reduceLT,Nat.reduceEqDiff,eq_self]
  rfl
 ·rintro k s H' hk hw ⟨ver,rfl,t3,t8,t9,t10⟩
  have hx:=List.getElem?_eq_getElem hk
  have e1:=lR l k hk
  have hR:=hlen k
  have hC:=hcnt k
  rw[e1]
  generalize l[k]=v at*
  generalize cU (l.take k)=R at*
  have hld:=rR R (H++[.arr 165 4 ver (R.map eP),.box 25 3 0 1 [iA v.kind,iA v.i,sA v.s]]) H.length ver (by omega) (by simp)
  simp -implicitDefEqProofs only[↓reduceIte,go_sem,ak,Nat.reduceAdd,Nat.reduceLT,Nat.reduceEqDiff,eq_self,t3,t8,t9,t10,hk,hx,ai.enc]
  refine ab.ok hld ?_
  by_cases hc:R≠[]∧(cE R).2=v
  ·obtain⟨n,hn⟩:∃n,R.length=n+1:=⟨R.length-1,by have:=List.length_pos_iff.2 hc.1;omega⟩
   obtain⟨a1,a2,a3⟩:=Fg hc hn
   rw[a3]
   rw[hn]at t3
   have h1:=hc.1
   have h2:=hc.2
   generalize cE R=q at*
   obtain⟨m,w⟩:=q
   simp only at h2 a2
   subst h2
   have hm:=hC _ (List.mem_of_getElem? a1)
   simp only at hm
   have w1:IntKind.i64.wrap ((m:Int)+1)=((m+1:Nat):Int):=by rw[wrap64_in _ (by omega) (by omega)];rfl
   generalize hz:n+1=z at*
   have w2:IntKind.i64.wrap ((z:Int)-1)=(n:Int):=by rw[wrap64_in _ (by omega) (by omega)];omega
   generalize hy:((m+1:Nat):Int)=y at*
   generalize (gQ R w).map eP=R2 at*
   simp -implicitDefEqProofs only[↓reduceIte,go_sem,ah,ak,Nat.reduceAdd,Nat.reduceLT,Nat.reduceLeDiff,Nat.reduceEqDiff,eq_self,iZ,ne_eq,h1,not_false_eq_true,decide_true,ky,t3,hn,w2,show((n:Int)<(z:Int))=True from eq_true (by omega),show((0:Int)≤(n:Int))=True from eq_true (by omega),a1,Option.map_some,eP,List.take_succ_cons,List.take_zero,List.map_cons,List.map_nil,List.length_cons,List.length_nil,w1,List.drop_succ_cons,List.drop_zero,a2]
   simp -implicitDefEqProofs only[↓reduceIte,go_sem,Nat.reduceLT,eq_self,t10]
   refine eQ.cut [.arr 165 4 ver R2] [.box 25 3 0 1 [iA w.kind,iA w.i,sA w.s],.box 165 4 0 1 [iA m,iA w.kind,iA w.i,sA w.s]] 1 rfl rfl (by simp -implicitDefEqProofs only[go_sem,eq_self]) ?_
   refine⟨ver,rfl,?_⟩
   simp -implicitDefEqProofs only[↓reduceIte,go_sem,Nat.reduceLT,Nat.reduceEqDiff,eq_self,t3,t8,t9,hw]
  ·have a1:=Eh hc
   have a2:(gQ R v).length=R.length+1:=by unfold gQ;rw[if_neg hc,List.length_append];rfl
   rw[a2]
   by_cases h1:R=[]
   ·subst h1
    generalize (gQ [] v).map eP=R2 at*
    simp only[List.length_nil,List.map_nil,List.nil_append]at a1 t3⊢
    subst a1
    simp -implicitDefEqProofs only[↓reduceIte,go_sem,ah,ak,Nat.reduceAdd,Nat.reduceLT,Nat.reduceLeDiff,Nat.reduceEqDiff,reduceCtorEq,eq_self,iZ,cE,zR,zV,dA,List.getLast?_nil,Option.getD_none,ne_eq,not_true_eq_false,decide_false,t3,List.length_nil]
    simp -implicitDefEqProofs only[↓reduceIte,go_sem,Nat.reduceLT,eq_self,t10]
    refine eQ.cut [.arr 165 4 (ver+1) [[.v (.int .i64 1),.v (.int .i64 v.kind),.v (.int .i64 v.i),.v (.string v.s)]]] [.box 25 3 0 1 [iA v.kind,iA v.i,sA v.s],.box 165 4 0 1 [iA 0,iA 0,iA 0,sA ⟨#[]⟩]] 1 rfl rfl (by simp -implicitDefEqProofs only[go_sem,eq_self]) ?_
    refine⟨ver+1,rfl,?_⟩
    simp -implicitDefEqProofs only[↓reduceIte,go_sem,Nat.reduceLT,Nat.reduceEqDiff,eq_self,t8,t9,hw]
   ·have h2:¬(cE R).2=v:=fun h=>hc ⟨h1,h⟩
    generalize cE R=q at*
    obtain⟨m,w⟩:=q
    simp only at h2
    generalize (gQ R v).map eP=R2 at*
    subst a1
    simp -implicitDefEqProofs only[↓reduceIte,go_sem,ah,ak,Nat.reduceAdd,Nat.reduceLT,Nat.reduceLeDiff,Nat.reduceEqDiff,eq_self,iZ,ne_eq,h1,not_false_eq_true,decide_true,ky,h2,decide_false,t3,List.length_map]
    refine⟨by omega,by omega,?_⟩
    simp -implicitDefEqProofs only[↓reduceIte,go_sem,Nat.reduceLT,eq_self,t10]
    refine eQ.cut [.arr 165 4 (ver+1) (R.map eP++[[.v (.int .i64 1),.v (.int .i64 v.kind),.v (.int .i64 v.i),.v (.string v.s)]])] [.box 25 3 0 1 [iA v.kind,iA v.i,sA v.s],.box 165 4 0 1 [iA m,iA w.kind,iA w.i,sA w.s]] 1 rfl rfl (by simp -implicitDefEqProofs only[go_sem,eq_self]) ?_
    refine⟨ver+1,rfl,?_⟩
    simp -implicitDefEqProofs only[↓reduceIte,go_sem,Nat.reduceLT,Nat.reduceEqDiff,eq_self,t8,t9,hw]
 ·rintro s H' ⟨ver,rfl,t3,t8,t9,t10⟩
  rw[List.take_length]at t3
  rw[List.take_length]
  simp -implicitDefEqProofs only[↓reduceIte,go_sem,Nat.reduceLT,Nat.reduceEqDiff,eq_self,t3,t9,t10]
  refine aw.ret ?_
  simp -implicitDefEqProofs only[↓reduceIte,go_sem,Nat.reduceLT,eq_self,List.take_of_length_le (show((cU l).map eP).length≤(cU l).length by rw[List.length_map];exact Nat.le_refl _)]
theorem CQ{R:List (Nat×ai)}{p:ai→Prop}(h:∀r∈R,p r.2){v:ai}(hv:p v):∀r∈gQ R v,p r.2:=by
 intro r hr
 unfold gQ at hr
 split at hr
 ·rcases List.mem_append.1 hr with hr|hr
  ·exact h r (List.dropLast_subset R hr)
  ·simp at hr;rw[hr];exact hv
 ·rcases List.mem_append.1 hr with hr|hr
  ·exact h r hr
  ·simp at hr;rw[hr];exact hv
theorem rD{p:ai→Prop}:∀(l:List ai) (R:List (Nat×ai)),(∀v∈l,p v)→(∀r∈R,p r.2)→∀r∈l.foldl gQ R,p r.2
 |[],R,_,h=>h
 |v::l,R,hl,h=>rD l _ (fun x hx=>hl x (by simp[hx])) (CQ h (hl v (by simp)))
theorem ny{p:ai→Prop}{l:List ai}(h:∀v∈l,p v):∀r∈cU l,p r.2:=rD l [] h (by simp)
def kX(r:Nat×ai):List Nat:=a9 r.1++cS r.2
def ek(R:List (Nat×ai)):List Nat:=R.flatMap kX
def se(l:List ai)(k:Int):List Nat:=if aL l k=0 then ek (cU l)else[]
theorem rP(R:List (Nat×ai))(r:Nat×ai):ek (R++[r])=ek R++kX r:=by simp[ek]
theorem q6(l:List ai)(k:Int)(hok:∀v∈l,dF v.i)(H:aa)(hl:l.length≤1000000000):
  ag Tryz.prog 80 [.d (.list false (l.map ai.enc)),iA k] H (.ok (.bf [.d (.list false (aG (se l k))),iA (aL l k)])) H:=by
 by_cases hp:aL l k=0
 ·rw[show se l k=ek (cU l)from if_pos hp]
  have hmay:=eF hp
  have h4:=dX hp
  have hrd:=fun H=>B4 l false hl H
  have hRl:=kN l l.length
  have hRc:=kT l l.length
  rw[List.take_length]at hRl hRc
  have hRv:=ny (p:=fun v=>dF v.i∧cT v=true) (l:=l) fun v hv=>⟨hok v hv,hmay v hv⟩
  generalize cU l=R at*
  have hone:∀r∈R,(kX r).length≤1050:=fun r hr=>by
   have h1:=bn 10 r.1 (by have:=hRc r hr;omega)
   have h2:=dx (hRv r hr).1 (hRv r hr).2
   unfold kX
   rw[List.length_append];omega
  have hWb:∀k,k≤R.length→(ek (R.take k)).length≤k* 1050:=by
   intro k
   induction k with
   |zero=>intro _;simp[ek]
   |succ k ih=>
    intro hk
    have hk':k<R.length:=by omega
    rw[List.take_succ_eq_append_getElem hk',rP,List.length_append]
    have h1:=ih (by omega)
    have h2:=hone _ (List.getElem_mem hk')
    omega
  refine ag.aj (hint:=(fun _=>false)) Tryz.func80 (by kernel_rfl) rfl [4,5] (by kernel_rfl) (by decide) (by simp[Tryz.ntmps80]) ?_
  rw[Tryz.ntmps80]
  simp -implicitDefEqProofs only[↓reduceIte,go_sem,Nat.reduceLT,Nat.reduceEqDiff,reduceCtorEq,eq_self]
  refine ab.ok (dW l k false _ (by omega)) ?_
  rw[hp]
  simp -implicitDefEqProofs only[↓reduceIte,go_sem,Nat.reduceLT,reduceCtorEq,eq_self]
  refine ab.ok (hrd _) ?_
  simp -implicitDefEqProofs only[↓reduceIte,go_sem,Nat.reduceLT,eq_self]
  refine bl (fun j s H'=>∃ver,H'=H++[.arr 5 1 ver (aG (ek (R.take j)))]∧s 7= .sl H.length ver 0 (ek (R.take j)).length∧s 19= .d (.list false (R.map eP))∧s 20=iA R.length∧s 21=iA j) R.length (by omega) (ar.eU _ _ 7 5 1 (by decide) (by simp -implicitDefEqProofs only[↓reduceIte,go_sem,Nat.reduceLT,Nat.reduceEqDiff,eq_self]) _) ?_ ?_ ?_
  ·refine⟨0,rfl,?_⟩
   simp -implicitDefEqProofs only[↓reduceIte,go_sem,Nat.reduceLT,Nat.reduceEqDiff,eq_self]
   rfl
  ·rintro j s H' hj hw ⟨ver,rfl,t7,t19,t20,t21⟩
   have hx:=List.getElem?_eq_getElem hj
   have hm:=List.getElem_mem hj
   have hb:=hWb j (by omega)
   have hrl:=hone _ hm
   have hc:=hRc _ hm
   have hv:=hRv _ hm
   have e1:ek (R.take (j+1))=ek (R.take j)++(a9 (R[j]).1++cS (R[j]).2):=by rw[List.take_succ_eq_append_getElem hj,rP,kX]
   unfold kX at hrl
   rw[List.length_append]at hrl
   rw[e1]
   generalize ek (R.take j)=B at*
   generalize R[j]=r at*
   obtain⟨m,w⟩:=r
   simp only at hrl hc hv⊢
   have hvd:=fun H=>ey w hv.1 hv.2 H
   have wm:=aU m (by omega)
   simp -implicitDefEqProofs only[↓reduceIte,go_sem,ah,ak,Nat.reduceAdd,Nat.reduceLT,Nat.reduceEqDiff,eq_self,t19,t20,t21,hj,hx,eP]
   refine ab.ok (hvd _) ?_
   simp -implicitDefEqProofs only[↓reduceIte,go_sem,ah,Nat.reduceAdd,Nat.reduceLT,Nat.reduceLeDiff,Nat.reduceEqDiff,eq_self,t7,wm]
   refine ab.ok (mI m (by omega) _) ?_
   simp -implicitDefEqProofs only[↓reduceIte,go_sem,Nat.reduceLT,Nat.reduceEqDiff,eq_self,aS,al,eB]
   have hpm:=bn 10 m (by omega)
   refine⟨by omega,by omega,by omega,by omega,?_⟩
   simp -implicitDefEqProofs only[↓reduceIte,go_sem,Nat.reduceLT,eq_self,t21]
   refine eQ.cut [.arr 5 1 (ver+1+1) (aG (B++(a9 m++cS w)))] [.box 165 4 0 1 [iA m,iA w.kind,iA w.i,sA w.s]] 1 rfl rfl (by simp -implicitDefEqProofs only[go_sem,eq_self]) ?_
   refine⟨ver+1+1,rfl,?_⟩
   simp -implicitDefEqProofs only[↓reduceIte,go_sem,Nat.reduceAdd,Nat.reduceLT,Nat.reduceEqDiff,eq_self,t19,t20,hw,Nat.add_assoc]
  ·rintro s H' ⟨ver,rfl,t7,t19,t20,t21⟩
   rw[show R.take R.length=R from List.take_length]at*
   simp -implicitDefEqProofs only[↓reduceIte,go_sem,Nat.reduceLT,Nat.reduceEqDiff,eq_self,t7,t20,t21]
   refine aw.ret ?_
   simp -implicitDefEqProofs only[↓reduceIte,go_sem,Nat.reduceLT,Nat.reduceEqDiff,eq_self,List.take_of_length_le (Nat.le_of_eq (al (ek R)))]
 ·rw[show se l k=[]from if_neg hp]
  refine ag.bY (cs:=[.d (.v (.slice none 0 0)),iA (aL l k)]) ?_ (.cons .nil (.cons (.refl _) .nil))
  refine ag.aj (hint:=(fun _=>false)) Tryz.func80 (by kernel_rfl) rfl [4,5] (by kernel_rfl) (by decide) (by simp[Tryz.ntmps80]) ?_
  rw[Tryz.ntmps80]
  simp -implicitDefEqProofs only[↓reduceIte,go_sem,Nat.reduceLT,Nat.reduceEqDiff,reduceCtorEq,eq_self]
  refine ab.ok (dW l k false _ (by omega)) ?_
  simp -implicitDefEqProofs only[↓reduceIte,go_sem,Nat.reduceLT,Nat.reduceEqDiff,eq_self,hp]
  refine aw.bq ?_
  simp -implicitDefEqProofs only[↓reduceIte,go_sem,Nat.reduceLT,Nat.reduceEqDiff,eq_self]
theorem ji(k:Int):∀(n:Nat) (b:List Nat),(aR k n b).2.2=0→(aR k n b).1.length=n
 |0,_,_=>rfl
 |n+1,b,h=>by
  unfold aR at h⊢
  split
  ·rename_i h1
   rw[if_pos h1]at h
   split
   ·rename_i h2
    simp[ji k n _ h2]
   ·rename_i h2
    rw[if_neg h2]at h
    exact absurd h h2
  ·rename_i h1
   rw[if_neg h1]at h
   exact absurd h h1
theorem js(k:Int):∀(n:Nat) (b:List Nat),∃j,(aR k n b).2.1=b.drop j
 |0,b=>⟨0,rfl⟩
 |n+1,b=>by
  have nil:∃j,([]:List Nat)=b.drop j:=⟨b.length,by simp⟩
  unfold aR
  split
  ·split
   ·obtain⟨j,h⟩:=dP b k
    obtain⟨i,h2⟩:=js k n (dz b k).2.1
    exact⟨j+i,by rw[h2,h,List.drop_drop]⟩
   ·exact nil
  ·exact nil
theorem wF{k:Int}{n:Nat}{b:List Nat}(h:(eK k n b).2.2=0):eK k n b=aR k n b∧(aR k n b).2.2=0∧j6 (aR k n b).1:=by
 unfold eK at h⊢
 split
 ·rename_i h1
  rw[if_pos h1]at h
  split
  ·rename_i h2
   exact⟨rfl,h1,h2⟩
  ·rename_i h2
   rw[if_neg h2]at h
   simp at h
 ·rename_i h1
  rw[if_neg h1]at h
  exact absurd h h1
noncomputable def uh(q:List ai×List Nat×Int)(n:Nat):List ai×List Nat×Int:=
 if q.2.2≠0 then([],[],q.2.2)
 else if bG q.2.1 n (eu q.1.length)≠0 then([],[],bG q.2.1 n (eu q.1.length))
 else if iq (bu q.2.1 n (eu q.1.length)) q.1.length then(q.1,bu q.2.1 n (eu q.1.length),0)else([],[],4)
noncomputable def cM(b:List Nat)(n k:Int):List ai×List Nat×Int:=
 if bI k=false then([],[],1)
 else if n<0 then([],[],2)
 else if 4096<n then([],[],2)
 else if(aJ b).2.2≠0 then([],[],(aJ b).2.2)
 else if n<(aJ b).1 then([],[],4)
 else uh (eK k (aJ b).1 (b.drop (aJ b).2.1)) n.toNat
theorem tx(b:List Nat)(n k:Int)(hl:b.length≤140737488351232)(hb:∀c∈b,c<256)(H:aa):
  ag Tryz.prog 123 [.d (.list false (aG b)),iA n,iA k] H (.ok (.bf [.d (.list false ((cM b n k).1.map ai.enc)),.d (.list false (us (cM b n k).2.1)),iA (cM b n k).2.2])) H:=by
 by_cases hk:bI k=false
 ·rw[show cM b n k=([],[],1)from if_pos hk]
  refine ag.bY (cs:=[.d (.v (.slice none 0 0)),.d (.v (.slice none 0 0)),iA 1]) ?_ (.cons .nil (.cons .nil (.cons (.refl _) .nil)))
  refine ag.aj (hint:=(fun _=>false)) Tryz.func123 (by kernel_rfl) rfl [6,7,8] (by kernel_rfl) (by decide) (by simp[Tryz.ntmps123]) ?_
  rw[Tryz.ntmps123]
  simp -implicitDefEqProofs only[↓reduceIte,go_sem,Nat.reduceLT,Nat.reduceEqDiff,eq_self]
  refine ab.ok (bC k _) ?_
  simp -implicitDefEqProofs only[↓reduceIte,go_sem,Nat.reduceLT,Nat.reduceEqDiff,Int.reduceEq,eq_self,hk,Bool.false_eq_true]
  refine aw.bq ?_
  simp -implicitDefEqProofs only[↓reduceIte,go_sem,Nat.reduceLT,Nat.reduceEqDiff,eq_self]
 rw[show cM b n k=_ from if_neg hk]
 have hk1:bI k=true:=by simpa using hk
 by_cases h1:n<0
 ·rw[if_pos h1]
  refine ag.bY (cs:=[.d (.v (.slice none 0 0)),.d (.v (.slice none 0 0)),iA 2]) ?_ (.cons .nil (.cons .nil (.cons (.refl _) .nil)))
  refine ag.aj (hint:=(fun _=>false)) Tryz.func123 (by kernel_rfl) rfl [6,7,8] (by kernel_rfl) (by decide) (by simp[Tryz.ntmps123]) ?_
  rw[Tryz.ntmps123]
  simp -implicitDefEqProofs only[↓reduceIte,go_sem,Nat.reduceLT,Nat.reduceEqDiff,eq_self]
  refine ab.ok (bC k _) ?_
  simp -implicitDefEqProofs only[↓reduceIte,go_sem,Nat.reduceLT,Nat.reduceEqDiff,eq_self,hk1,h1]
  refine aw.bq ?_
  simp -implicitDefEqProofs only[↓reduceIte,go_sem,Nat.reduceLT,Nat.reduceEqDiff,eq_self]
 rw[if_neg h1]
 by_cases h2:4096<n
 ·rw[if_pos h2]
  refine ag.bY (cs:=[.d (.v (.slice none 0 0)),.d (.v (.slice none 0 0)),iA 2]) ?_ (.cons .nil (.cons .nil (.cons (.refl _) .nil)))
  refine ag.aj (hint:=(fun _=>false)) Tryz.func123 (by kernel_rfl) rfl [6,7,8] (by kernel_rfl) (by decide) (by simp[Tryz.ntmps123]) ?_
  rw[Tryz.ntmps123]
  simp -implicitDefEqProofs only[↓reduceIte,go_sem,Nat.reduceLT,Nat.reduceEqDiff,eq_self]
  refine ab.ok (bC k _) ?_
  simp -implicitDefEqProofs only[↓reduceIte,go_sem,Nat.reduceLT,Nat.reduceEqDiff,reduceCtorEq,eq_self,hk1,h1,h2]
  refine aw.bq ?_
  simp -implicitDefEqProofs only[↓reduceIte,go_sem,Nat.reduceLT,Nat.reduceEqDiff,eq_self]
 rw[if_neg h2]
 obtain⟨N,rfl⟩:∃N:Nat,n=(N:Int):=⟨n.toNat,by omega⟩
 rw[Int.toNat_natCast]
 have h1f:((N:Int)<0)=False:=eq_false h1
 have h2f:((4096:Int)<(N:Int))=False:=eq_false h2
 have hgd:=fun H=>iW b false (by omega) hb H
 have hgl:=jw b
 have hglt:=jE b
 generalize aJ b=g at*
 obtain⟨many,j,e⟩:=g
 simp only at hgd hgl hglt⊢
 have hNu:=aU N (by omega)
 by_cases he:e=0
 ·subst he
  rw[if_neg (by simp)]
  by_cases h3:(N:Int)<(many:Int)
  ·rw[if_pos h3]
   refine ag.bY (cs:=[.d (.v (.slice none 0 0)),.d (.v (.slice none 0 0)),iA 4]) ?_ (.cons .nil (.cons .nil (.cons (.refl _) .nil)))
   refine ag.aj (hint:=(fun _=>false)) Tryz.func123 (by kernel_rfl) rfl [6,7,8] (by kernel_rfl) (by decide) (by simp[Tryz.ntmps123]) ?_
   rw[Tryz.ntmps123]
   simp -implicitDefEqProofs only[↓reduceIte,go_sem,Nat.reduceLT,Nat.reduceEqDiff,eq_self]
   refine ab.ok (bC k _) ?_
   simp -implicitDefEqProofs only[↓reduceIte,go_sem,Nat.reduceLT,Nat.reduceEqDiff,reduceCtorEq,eq_self,hk1,h1f,h2f]
   refine ab.ok (hgd _) ?_
   simp -implicitDefEqProofs only[↓reduceIte,go_sem,Nat.reduceLT,Nat.reduceEqDiff,eq_self,hNu,eq_true h3]
   refine aw.bq ?_
   simp -implicitDefEqProofs only[↓reduceIte,go_sem,Nat.reduceLT,Nat.reduceEqDiff,eq_self]
  rw[if_neg h3]
  have h3f:((N:Int)<(many:Int))=False:=eq_false h3
  have hmw:IntKind.i64.wrap (many:Int)=(many:Int):=wrap64_in _ (by omega) (by omega)
  have hj0:((0:Int)≤(j:Int))=True:=eq_true (by omega)
  have hdb:∀c∈b.drop j,c<256:=fun c hc=>hb c (List.mem_of_mem_drop hc)
  have hrd:=fun H=>zm (b.drop j) many k (by omega) (by rw[List.length_drop];omega) hdb H
  have hro:=wF (k:=k) (n:=many) (b:=b.drop j)
  have hrl:=ji k many (b.drop j)
  obtain⟨i,hrs⟩:=js k many (b.drop j)
  have hbt:(aG b).take b.length=aG b:=List.take_of_length_le (by rw[al];exact Nat.le_refl _)
  generalize aR k many (b.drop j)=q2 at*
  generalize eK k many (b.drop j)=q at*
  obtain⟨W,r,f⟩:=q
  simp only at hrd hro
  by_cases hf:f=0
  ·subst hf
   obtain⟨e1,e2,e3⟩:=hro rfl
   subst e1
   have hW:W.length=many:=hrl rfl
   have hrs':r=(b.drop j).drop i:=hrs
   have hrb:∀c∈r,c<256:=fun c hc=>hdb c (List.mem_of_mem_drop (hrs'▸hc))
   have hrlen:r.length≤b.length:=by rw[hrs',List.length_drop,List.length_drop];omega
   have hwl:=sO (n:=W.length) (by omega)
   have hun:=fun H=>jY r N (eu W.length) false (by omega) hrb (by omega) (by omega) H
   have hT:uh (W,r,0) N=if bG r N (eu W.length)≠0 then([],[],bG r N (eu W.length))else if iq (bu r N (eu W.length)) W.length then(W,bu r N (eu W.length),0)else([],[],4):=rfl
   have hdw:=fun H=>oi W.length (by omega) H
   have hCl:=cW r N (eu W.length)
   have hClt:=jJ r N (eu W.length) (by omega)
   unfold gY at hun
   rw[hT]
   generalize eu W.length=wd at*
   generalize bu r N wd=C at*
   generalize bG r N wd=z at*
   by_cases hz:z=0
   ·subst hz
    rw[if_neg (by simp)]
    have hus:=fun H=>BO C W.length H (by omega) (by omega) hClt
    rw[if_pos rfl]at hun
    cases hu:iq C W.length with
    |true=>
     rw[hu]at hus
     refine ag.aj (hint:=(fun _=>false)) Tryz.func123 (by kernel_rfl) rfl [6,7,8] (by kernel_rfl) (by decide) (by simp[Tryz.ntmps123]) ?_
     rw[Tryz.ntmps123]
     simp -implicitDefEqProofs only[↓reduceIte,go_sem,Nat.reduceLT,Nat.reduceEqDiff,eq_self]
     refine ab.ok (bC k _) ?_
     simp -implicitDefEqProofs only[↓reduceIte,go_sem,Nat.reduceLT,Nat.reduceEqDiff,reduceCtorEq,eq_self,hk1,h1f,h2f]
     refine ab.ok (hgd _) ?_
     simp -implicitDefEqProofs only[↓reduceIte,go_sem,Nat.reduceLT,Nat.reduceEqDiff,reduceCtorEq,eq_self,hNu,h3f,aS,al,hj0,hbt,dV,hmw]
     refine⟨by omega,ab.ok (hrd _) ?_⟩
     simp -implicitDefEqProofs only[↓reduceIte,go_sem,Nat.reduceLT,Nat.reduceEqDiff,eq_self,List.length_map]
     refine ab.ok (hdw _) ?_
     simp -implicitDefEqProofs only[↓reduceIte,go_sem,Nat.reduceLT,Nat.reduceEqDiff,eq_self]
     refine ab.ok (hun _) ?_
     simp -implicitDefEqProofs only[↓reduceIte,go_sem,Nat.reduceLT,Nat.reduceEqDiff,eq_self,List.length_map]
     refine ab.ok (hus _) ?_
     simp -implicitDefEqProofs only[↓reduceIte,go_sem,Nat.reduceLT,Nat.reduceEqDiff,eq_self]
     refine aw.bq ?_
     simp -implicitDefEqProofs only[↓reduceIte,go_sem,Nat.reduceLT,Nat.reduceEqDiff,eq_self]
    |false=>
     rw[hu]at hus
     rw[if_neg (by simp)]
     refine ag.bY (cs:=[.d (.v (.slice none 0 0)),.d (.v (.slice none 0 0)),iA 4]) ?_ (.cons .nil (.cons .nil (.cons (.refl _) .nil)))
     refine ag.aj (hint:=(fun _=>false)) Tryz.func123 (by kernel_rfl) rfl [6,7,8] (by kernel_rfl) (by decide) (by simp[Tryz.ntmps123]) ?_
     rw[Tryz.ntmps123]
     simp -implicitDefEqProofs only[↓reduceIte,go_sem,Nat.reduceLT,Nat.reduceEqDiff,eq_self]
     refine ab.ok (bC k _) ?_
     simp -implicitDefEqProofs only[↓reduceIte,go_sem,Nat.reduceLT,Nat.reduceEqDiff,reduceCtorEq,eq_self,hk1,h1f,h2f]
     refine ab.ok (hgd _) ?_
     simp -implicitDefEqProofs only[↓reduceIte,go_sem,Nat.reduceLT,Nat.reduceEqDiff,reduceCtorEq,eq_self,hNu,h3f,aS,al,hj0,hbt,dV,hmw]
     refine⟨by omega,ab.ok (hrd _) ?_⟩
     simp -implicitDefEqProofs only[↓reduceIte,go_sem,Nat.reduceLT,Nat.reduceEqDiff,eq_self,List.length_map]
     refine ab.ok (hdw _) ?_
     simp -implicitDefEqProofs only[↓reduceIte,go_sem,Nat.reduceLT,Nat.reduceEqDiff,eq_self]
     refine ab.ok (hun _) ?_
     simp -implicitDefEqProofs only[↓reduceIte,go_sem,Nat.reduceLT,Nat.reduceEqDiff,eq_self,List.length_map]
     refine ab.ok (hus _) ?_
     simp -implicitDefEqProofs only[↓reduceIte,go_sem,Nat.reduceLT,eq_self]
     refine aw.bq ?_
     simp -implicitDefEqProofs only[↓reduceIte,go_sem,Nat.reduceLT,Nat.reduceEqDiff,eq_self]
   ·rw[if_pos hz]
    rw[if_neg hz]at hun
    refine ag.bY (cs:=[.d (.v (.slice none 0 0)),.d (.v (.slice none 0 0)),iA z]) ?_ (.cons .nil (.cons .nil (.cons (.refl _) .nil)))
    refine ag.aj (hint:=(fun _=>false)) Tryz.func123 (by kernel_rfl) rfl [6,7,8] (by kernel_rfl) (by decide) (by simp[Tryz.ntmps123]) ?_
    rw[Tryz.ntmps123]
    simp -implicitDefEqProofs only[↓reduceIte,go_sem,Nat.reduceLT,Nat.reduceEqDiff,eq_self]
    refine ab.ok (bC k _) ?_
    simp -implicitDefEqProofs only[↓reduceIte,go_sem,Nat.reduceLT,Nat.reduceEqDiff,reduceCtorEq,eq_self,hk1,h1f,h2f]
    refine ab.ok (hgd _) ?_
    simp -implicitDefEqProofs only[↓reduceIte,go_sem,Nat.reduceLT,Nat.reduceEqDiff,reduceCtorEq,eq_self,hNu,h3f,aS,al,hj0,hbt,dV,hmw]
    refine⟨by omega,ab.ok (hrd _) ?_⟩
    simp -implicitDefEqProofs only[↓reduceIte,go_sem,Nat.reduceLT,Nat.reduceEqDiff,eq_self,List.length_map]
    refine ab.ok (hdw _) ?_
    simp -implicitDefEqProofs only[↓reduceIte,go_sem,Nat.reduceLT,Nat.reduceEqDiff,eq_self]
    refine ab.ok (hun _) ?_
    simp -implicitDefEqProofs only[↓reduceIte,go_sem,Nat.reduceLT,Nat.reduceEqDiff,eq_self,hz]
    refine aw.bq ?_
    simp -implicitDefEqProofs only[↓reduceIte,go_sem,Nat.reduceLT,Nat.reduceEqDiff,eq_self]
  ·rw[show uh (W,r,f) N=([],[],f)from if_pos hf]
   refine ag.bY (cs:=[.d (.v (.slice none 0 0)),.d (.v (.slice none 0 0)),iA f]) ?_ (.cons .nil (.cons .nil (.cons (.refl _) .nil)))
   refine ag.aj (hint:=(fun _=>false)) Tryz.func123 (by kernel_rfl) rfl [6,7,8] (by kernel_rfl) (by decide) (by simp[Tryz.ntmps123]) ?_
   rw[Tryz.ntmps123]
   simp -implicitDefEqProofs only[↓reduceIte,go_sem,Nat.reduceLT,Nat.reduceEqDiff,eq_self]
   refine ab.ok (bC k _) ?_
   simp -implicitDefEqProofs only[↓reduceIte,go_sem,Nat.reduceLT,Nat.reduceEqDiff,reduceCtorEq,eq_self,hk1,h1f,h2f]
   refine ab.ok (hgd _) ?_
   simp -implicitDefEqProofs only[↓reduceIte,go_sem,Nat.reduceLT,Nat.reduceEqDiff,reduceCtorEq,eq_self,hNu,h3f,aS,al,hj0,hbt,dV,hmw]
   refine⟨by omega,ab.ok (hrd _) ?_⟩
   simp -implicitDefEqProofs only[↓reduceIte,go_sem,Nat.reduceLT,Nat.reduceEqDiff,eq_self,hf]
   refine aw.bq ?_
   simp -implicitDefEqProofs only[↓reduceIte,go_sem,Nat.reduceLT,Nat.reduceEqDiff,eq_self]
 ·rw[if_pos he]
  refine ag.bY (cs:=[.d (.v (.slice none 0 0)),.d (.v (.slice none 0 0)),iA e]) ?_ (.cons .nil (.cons .nil (.cons (.refl _) .nil)))
  refine ag.aj (hint:=(fun _=>false)) Tryz.func123 (by kernel_rfl) rfl [6,7,8] (by kernel_rfl) (by decide) (by simp[Tryz.ntmps123]) ?_
  rw[Tryz.ntmps123]
  simp -implicitDefEqProofs only[↓reduceIte,go_sem,Nat.reduceLT,Nat.reduceEqDiff,eq_self]
  refine ab.ok (bC k _) ?_
  simp -implicitDefEqProofs only[↓reduceIte,go_sem,Nat.reduceLT,Nat.reduceEqDiff,reduceCtorEq,eq_self,hk1,h1f,h2f]
  refine ab.ok (hgd _) ?_
  simp -implicitDefEqProofs only[↓reduceIte,go_sem,Nat.reduceLT,Nat.reduceEqDiff,eq_self,he]
  refine aw.bq ?_
  simp -implicitDefEqProofs only[↓reduceIte,go_sem,Nat.reduceLT,Nat.reduceEqDiff,eq_self]
def gD(W:List ai)(C:List Nat):List ai:=C.map fun c=>W.getD c zV
noncomputable def fB(b:List Nat)(n k:Int):List ai×Int:=if(cM b n k).2.2=0 then(gD (cM b n k).1 (cM b n k).2.1,0)else([],(cM b n k).2.2)
theorem vm{C:List Nat}{n:Nat}(h:iq C n=true):∀c∈C,c<n:=fun c hc=>by
 unfold iq at h
 rw[Bool.and_eq_true,List.all_eq_true]at h
 simpa using h.1 c ((fp C c).2 hc)
theorem pS{b:List Nat}{n k:Int}{W:List ai}{C:List Nat}(h:cM b n k=(W,C,0)):
  ∃(N many j i:Nat),n=(N:Int)∧N≤4096∧bI k=true∧aJ b=(many,j,0)∧many≤N∧aR k many (b.drop j)=(W,(b.drop j).drop i,0)∧j6 W∧W.length=many∧
   bG ((b.drop j).drop i) N (eu W.length)=0∧C=bu ((b.drop j).drop i) N (eu W.length)∧iq C W.length=true:=by
 unfold cM at h
 split at h
 ·simp at h
 rename_i hk
 split at h
 ·simp at h
 rename_i h1
 split at h
 ·simp at h
 rename_i h2
 split at h
 ·rename_i he
  simp only[Prod.mk.injEq]at h
  exact absurd h.2.2 he
 rename_i he
 split at h
 ·simp at h
 rename_i h3
 rcases hg:aJ b with⟨many,j,e⟩
 rw[hg]at h he h3
 simp only at h he h3
 have he':e=0:=by simpa using he
 subst he'
 obtain⟨i,hrs⟩:=js k many (b.drop j)
 have hro:=wF (k:=k) (n:=many) (b:=b.drop j)
 have hrl:=ji k many (b.drop j)
 rcases hq:eK k many (b.drop j)with⟨W',r,f⟩
 rw[hq]at h hro
 simp only at hro
 unfold uh at h
 split at h
 ·rename_i hf
  simp only[Prod.mk.injEq]at h
  exact absurd h.2.2 hf
 rename_i hf
 have hf':f=0:=by simpa using hf
 subst hf'
 obtain⟨e1,e2,e3⟩:=hro rfl
 rw[←e1]at e3 hrs hrl
 simp only at h hrs
 split at h
 ·rename_i hz
  simp only[Prod.mk.injEq]at h
  exact absurd h.2.2 hz
 rename_i hz
 split at h
 ·rename_i hu
  simp only[Prod.mk.injEq]at h
  obtain⟨rfl,rfl,_⟩:=h
  have hW:W'.length=many:=hrl rfl
  subst hrs
  refine⟨n.toNat,many,j,i,by omega,by omega,by simpa using hk,rfl,by omega,e1.symm,e3,hW,by simpa using hz,rfl,hu⟩
 ·simp at h
theorem vP(b:List Nat)(n k:Int)(hl:b.length≤140737488351232)(hb:∀c∈b,c<256)(H:aa):
  ag Tryz.prog 86 [.d (.list false (aG b)),iA n,iA k] H (.ok (.bf [.d (.list false ((fB b n k).1.map ai.enc)),iA (fB b n k).2])) H:=by
 have htd:=fun H=>tx b n k hl hb H
 have hok:=fun W C=>pS (b:=b) (n:=n) (k:=k) (W:=W) (C:=C)
 unfold fB
 generalize cM b n k=t at*
 obtain⟨W,C,e⟩:=t
 simp only at htd hok⊢
 by_cases he:e=0
 ·subst he
  obtain⟨N,many,j,i,rfl,hN,_,_,hmN,_,_,hW,_,hC,hu⟩:=hok W C rfl
  have hlt:=vm hu
  have hCl:C.length=N:=by rw[hC,cW]
  clear hok hC hu
  rw[if_pos rfl]
  refine ag.aj (hint:=(fun _=>false)) Tryz.func86 (by kernel_rfl) rfl [6,7] (by kernel_rfl) (by decide) (by simp[Tryz.ntmps86]) ?_
  rw[Tryz.ntmps86]
  simp -implicitDefEqProofs only[↓reduceIte,go_sem,Nat.reduceLT,Nat.reduceEqDiff,reduceCtorEq,eq_self]
  refine ab.ok (htd _) ?_
  simp -implicitDefEqProofs only[↓reduceIte,go_sem,Nat.reduceLT,Nat.reduceEqDiff,eq_self]
  refine bl (fun i s H'=>H'=H++[.arr 25 3 i ((gD W (C.take i)).map ai.enc)]∧s 8= .d (.list false (W.map ai.enc))∧s 11= .sl H.length i 0 i∧s 25= .d (.list false (us C))∧s 26=iA C.length∧s 27=iA i) C.length (by omega) (ar.eU _ _ 11 25 3 (by decide) (by simp -implicitDefEqProofs only[↓reduceIte,go_sem,Nat.reduceLT,Nat.reduceEqDiff,eq_self]) _) ?_ ?_ ?_
  ·refine⟨rfl,?_⟩
   simp -implicitDefEqProofs only[↓reduceIte,go_sem,Nat.reduceLT,Nat.reduceEqDiff,eq_self,fT]
  ·rintro i s H' hi hw ⟨rfl,t8,t11,t25,t26,t27⟩
   have hx:=nJ C i hi
   have hcl:=hlt _ (List.getElem_mem hi)
   have hwg:=List.getElem?_eq_getElem hcl
   have e1:gD W (C.take (i+1))=gD W (C.take i)++[W[C[i]]]:=by
    unfold gD
    rw[List.take_succ_eq_append_getElem hi,List.map_append]
    simp[List.getD,hcl]
   have hpl:(gD W (C.take i)).length=i:=by unfold gD;rw[List.length_map,List.length_take];omega
   rw[e1]
   generalize gD W (C.take i)=L at*
   generalize W[C[i]]=v at*
   generalize C[i]=c at*
   have hc0:((0:Int)≤(c:Int))=True:=eq_true (by omega)
   have hsn:L.map ai.enc++[[D.v (.int .i64 v.kind),D.v (.int .i64 v.i),D.v (.string v.s)]]=(L++[v]).map ai.enc:=by simp[ai.enc]
   simp -implicitDefEqProofs only[↓reduceIte,go_sem,Nat.reduceAdd,Nat.reduceLT,Nat.reduceLeDiff,Nat.reduceEqDiff,eq_self,t8,t11,t25,t26,t27,hi,hx,hwg,hc0,List.length_map,hpl,hsn,ai.enc]
   refine⟨by omega,by omega,?_⟩
   refine eQ.same ⟨rfl,?_⟩
   simp -implicitDefEqProofs only[↓reduceIte,go_sem,Nat.reduceLT,Nat.reduceEqDiff,eq_self,t8,t25,t26,hw]
  ·rintro s H' ⟨rfl,t8,t11,t25,t26,t27⟩
   simp -implicitDefEqProofs only[↓reduceIte,go_sem,Nat.reduceLT,Nat.reduceEqDiff,eq_self,t11,t26,t27]
   refine aw.ret ?_
   rw[List.take_length]
   simp -implicitDefEqProofs only[↓reduceIte,go_sem,Nat.reduceLT,Nat.reduceEqDiff,eq_self,List.take_of_length_le (show((gD W C).map ai.enc).length≤C.length by rw[List.length_map,gD,List.length_map];omega)]
 ·rw[if_neg he]
  refine ag.bY (cs:=[.d (.v (.slice none 0 0)),iA e]) ?_ (.cons .nil (.cons (.refl _) .nil))
  refine ag.aj (hint:=(fun _=>false)) Tryz.func86 (by kernel_rfl) rfl [6,7] (by kernel_rfl) (by decide) (by simp[Tryz.ntmps86]) ?_
  rw[Tryz.ntmps86]
  simp -implicitDefEqProofs only[↓reduceIte,go_sem,Nat.reduceLT,Nat.reduceEqDiff,reduceCtorEq,eq_self]
  refine ab.ok (htd _) ?_
  simp -implicitDefEqProofs only[↓reduceIte,go_sem,Nat.reduceLT,Nat.reduceEqDiff,eq_self,he]
  refine aw.bq ?_
  simp -implicitDefEqProofs only[↓reduceIte,go_sem,Nat.reduceLT,Nat.reduceEqDiff,eq_self]
def gR(id:Nat)(k:Int):List (Int×AV):=
 [(1,.agg [.fn 75 [.ptr id 0 0 0],.fn 77 [.ptr id 0 0 0]]),(2,.agg [.fn 79 [.ptr id 0 0 0],.fn 81 [.ptr id 0 0 0]]),(3,.agg [.fn 83 [.ptr id 0 0 0],.fn 85 [.ptr id 0 0 0]])]++
 if k=1 then[(4,.agg [.fn 87 [],.fn 88 []])]else[]
theorem eJ(k:Int)(H:aa):ag Tryz.prog 46 [iA k] H (.ok (.mp (H.length+1))) (H++[kB k,.mp .i64 (gR H.length k)]):=by
 by_cases h:k=1
 ·subst h
  have hM:gR H.length 1=[(1,.agg [.fn 75 [.ptr H.length 0 0 0],.fn 77 [.ptr H.length 0 0 0]]),(2,.agg [.fn 79 [.ptr H.length 0 0 0],.fn 81 [.ptr H.length 0 0 0]]),(3,.agg [.fn 83 [.ptr H.length 0 0 0],.fn 85 [.ptr H.length 0 0 0]]),(4,.agg [.fn 87 [],.fn 88 []])]:=by unfold gR;rw[if_pos rfl];rfl
  rw[hM]
  refine ag.aj (hint:=(fun _=>false)) Tryz.func46 (by kernel_rfl) rfl [2] (by kernel_rfl) (by decide) (by simp[Tryz.ntmps46]) ?_
  rw[Tryz.ntmps46]
  simp -implicitDefEqProofs only[↓reduceIte,go_sem,ah,Nat.reduceAdd,Nat.reduceLT,Nat.reduceLeDiff,Nat.reduceEqDiff,Int.reduceEq,eq_self,j3,fI]
  unfold kB
  exact⟨_,ar.refl _ _,by simp -implicitDefEqProofs only[↓reduceIte,go_sem,Nat.reduceLT,eq_self]⟩
 ·have hM:gR H.length k=[(1,.agg [.fn 75 [.ptr H.length 0 0 0],.fn 77 [.ptr H.length 0 0 0]]),(2,.agg [.fn 79 [.ptr H.length 0 0 0],.fn 81 [.ptr H.length 0 0 0]]),(3,.agg [.fn 83 [.ptr H.length 0 0 0],.fn 85 [.ptr H.length 0 0 0]])]:=by unfold gR;rw[if_neg h];rfl
  rw[hM]
  refine ag.aj (hint:=(fun _=>false)) Tryz.func46 (by kernel_rfl) rfl [2] (by kernel_rfl) (by decide) (by simp[Tryz.ntmps46]) ?_
  rw[Tryz.ntmps46]
  simp -implicitDefEqProofs only[↓reduceIte,go_sem,ah,Nat.reduceAdd,Nat.reduceLT,Nat.reduceLeDiff,Nat.reduceEqDiff,Int.reduceEq,eq_self,j3,fI,h]
  unfold kB
  exact⟨_,ar.refl _ _,by simp -implicitDefEqProofs only[↓reduceIte,go_sem,Nat.reduceLT,eq_self]⟩
theorem qR(l:List ai)(k:Int)(hok:∀v∈l,dF v.i)(hl:l.length≤1000000000)(G:aa)(id:Nat)(h:G[id]?=some (kB k)):
  ag Tryz.prog 75 [.d (.list false (l.map ai.enc)),.ptr id 0 0 0] G (.ok (.bf [.d (.list false (aG (iy l k))),iA (aL l k)])) G:=by
 have hd:=fun H=>oy l k hok H (by omega)
 unfold kB at h
 refine ag.aj (hint:=(fun _=>false)) Tryz.func75 (by kernel_rfl) rfl [3,4] (by kernel_rfl) (by decide) (by simp[Tryz.ntmps75]) ?_
 rw[Tryz.ntmps75]
 simp -implicitDefEqProofs only[↓reduceIte,go_sem,ah,Nat.reduceLT,Nat.reduceEqDiff,reduceCtorEq,eq_self,h]
 refine ab.ok (hd _) ?_
 simp -implicitDefEqProofs only[↓reduceIte,go_sem,Nat.reduceLT,Nat.reduceEqDiff,eq_self]
 refine aw.bq ?_
 simp -implicitDefEqProofs only[↓reduceIte,go_sem,Nat.reduceLT,Nat.reduceEqDiff,eq_self]
theorem th(l:List ai)(k:Int)(hok:∀v∈l,dF v.i)(hl:l.length≤1000000000)(G:aa)(id:Nat)(h:G[id]?=some (kB k)):
  ag Tryz.prog 83 [.d (.list false (l.map ai.enc)),.ptr id 0 0 0] G (.ok (.bf [.d (.list false (aG (ln l k))),iA (aL l k)])) G:=by
 have hd:=fun H=>pC l k hok H (by omega)
 unfold kB at h
 refine ag.aj (hint:=(fun _=>false)) Tryz.func83 (by kernel_rfl) rfl [3,4] (by kernel_rfl) (by decide) (by simp[Tryz.ntmps83]) ?_
 rw[Tryz.ntmps83]
 simp -implicitDefEqProofs only[↓reduceIte,go_sem,ah,Nat.reduceLT,Nat.reduceEqDiff,reduceCtorEq,eq_self,h]
 refine ab.ok (hd _) ?_
 simp -implicitDefEqProofs only[↓reduceIte,go_sem,Nat.reduceLT,Nat.reduceEqDiff,eq_self]
 refine aw.bq ?_
 simp -implicitDefEqProofs only[↓reduceIte,go_sem,Nat.reduceLT,Nat.reduceEqDiff,eq_self]
theorem v9(l:List ai)(k:Int)(hok:∀v∈l,dF v.i)(hl:l.length≤1000000000)(G:aa)(id:Nat)(h:G[id]?=some (kB k)):
  ag Tryz.prog 79 [.d (.list false (l.map ai.enc)),.ptr id 0 0 0] G (.ok (.bf [.d (.list false (aG (se l k))),iA (aL l k)])) G:=by
 have hd:=fun H=>q6 l k hok H (by omega)
 unfold kB at h
 refine ag.aj (hint:=(fun _=>false)) Tryz.func79 (by kernel_rfl) rfl [3,4] (by kernel_rfl) (by decide) (by simp[Tryz.ntmps79]) ?_
 rw[Tryz.ntmps79]
 simp -implicitDefEqProofs only[↓reduceIte,go_sem,ah,Nat.reduceLT,Nat.reduceEqDiff,reduceCtorEq,eq_self,h]
 refine ab.ok (hd _) ?_
 simp -implicitDefEqProofs only[↓reduceIte,go_sem,Nat.reduceLT,Nat.reduceEqDiff,eq_self]
 refine aw.bq ?_
 simp -implicitDefEqProofs only[↓reduceIte,go_sem,Nat.reduceLT,Nat.reduceEqDiff,eq_self]
theorem qT(b:List Nat)(n k:Int)(hl:b.length≤140737488351232)(hb:∀c∈b,c<256)(G:aa)(id:Nat)(h:G[id]?=some (kB k)):
  ag Tryz.prog 77 [.d (.list false (aG b)),iA n,.ptr id 0 0 0] G (.ok (.bf [.d (.list false ((dq b n k).1.map ai.enc)),iA (dq b n k).2])) G:=by
 have hd:=fun H=>tt b n k hl hb H
 unfold kB at h
 refine ag.aj (hint:=(fun _=>false)) Tryz.func77 (by kernel_rfl) rfl [5,6] (by kernel_rfl) (by decide) (by simp[Tryz.ntmps77]) ?_
 rw[Tryz.ntmps77]
 simp -implicitDefEqProofs only[↓reduceIte,go_sem,ah,Nat.reduceLT,Nat.reduceEqDiff,reduceCtorEq,eq_self,h]
 refine ab.ok (hd _) ?_
 simp -implicitDefEqProofs only[↓reduceIte,go_sem,Nat.reduceLT,Nat.reduceEqDiff,eq_self]
 refine aw.bq ?_
 simp -implicitDefEqProofs only[↓reduceIte,go_sem,Nat.reduceLT,Nat.reduceEqDiff,eq_self]
theorem tn(b:List Nat)(n k:Int)(hl:b.length≤140737488351232)(hb:∀c∈b,c<256)(G:aa)(id:Nat)(h:G[id]?=some (kB k)):
  ag Tryz.prog 85 [.d (.list false (aG b)),iA n,.ptr id 0 0 0] G (.ok (.bf [.d (.list false ((fB b n k).1.map ai.enc)),iA (fB b n k).2])) G:=by
 have hd:=fun H=>vP b n k hl hb H
 unfold kB at h
 refine ag.aj (hint:=(fun _=>false)) Tryz.func85 (by kernel_rfl) rfl [5,6] (by kernel_rfl) (by decide) (by simp[Tryz.ntmps85]) ?_
 rw[Tryz.ntmps85]
 simp -implicitDefEqProofs only[↓reduceIte,go_sem,ah,Nat.reduceLT,Nat.reduceEqDiff,reduceCtorEq,eq_self,h]
 refine ab.ok (hd _) ?_
 simp -implicitDefEqProofs only[↓reduceIte,go_sem,Nat.reduceLT,Nat.reduceEqDiff,eq_self]
 refine aw.bq ?_
 simp -implicitDefEqProofs only[↓reduceIte,go_sem,Nat.reduceLT,Nat.reduceEqDiff,eq_self]
def pD(a b:ai):Nat:=fU (IntKind.i64.wrap (b.i-a.i))
def bQ(l:List ai):List Nat:=List.zipWith pD l l.tail
theorem fA(l:List ai):(bQ l).length=l.length-1:=by simp[bQ]
theorem jz(l:List ai)(k:Nat)(h:k+1<l.length):(bQ l)[k]?=some (pD l[k] l[k+1]):=by
 simp[bQ,List.getElem?_zipWith,List.getElem?_tail,h,show k<l.length by omega]
theorem Er(a b:ai):pD a b<18446744073709551616:=gd (dy _).1 (dy _).2
theorem kR(l:List ai):∀n∈bQ l,n<18446744073709551616:=by
 intro n hn
 obtain⟨k,hk⟩:=List.getElem?_of_mem hn
 have hlt:=(List.getElem?_eq_some_iff.1 hk).1
 rw[fA]at hlt
 rw[jz l k (by omega)]at hk
 cases hk
 exact Er _ _
theorem x6(l:List ai)(k:Nat)(h:k+1<l.length):(bQ l).take (k+1)=(bQ l).take k++[pD l[k] l[k+1]]:=by
 rw[List.take_add_one,jz l k h];rfl
theorem yI(l:List ai)(nn:Bool)(H:aa)(hl:l.length≤1000000000000):ag Tryz.prog 124 [.d (.list nn (l.map ai.enc))] H (.ok (.d (.list false (us (bQ l))))) H:=by
 have hsl:=fA l
 refine ag.aj (hint:=(fun _=>false)) Tryz.func124 (by kernel_rfl) rfl [2] (by kernel_rfl) (by decide) (by simp[Tryz.ntmps124]) ?_
 rw[Tryz.ntmps124]
 simp -implicitDefEqProofs only[go_sem]
 refine fM (fun k s H'=>H'=H++[.arr 49 1 k (us ((bQ l).take k))]∧s 0= .d (.list nn (l.map ai.enc))∧s 3= .sl H.length k 0 k∧s 4=iA ((k:Int)+1)) (l.length-1) (by omega) (ar.eU _ _ 3 49 1 (by decide) (by simp -implicitDefEqProofs only[↓reduceIte,go_sem,Nat.reduceLT,Nat.reduceEqDiff,eq_self]) _) ?_ ?_ ?_
 ·refine⟨?_,?_⟩
  ·simp -implicitDefEqProofs only[go_sem,eq_self,List.take_zero,GL]
  ·simp -implicitDefEqProofs only[↓reduceIte,go_sem,Nat.reduceLT,Nat.reduceEqDiff,Int.reduceAdd,reduceCtorEq,eq_self]
 ·rintro k s H' hk hw ⟨rfl,t0,t3,t4⟩
  have hk1:k<l.length:=by omega
  have hk2:k+1<l.length:=by omega
  have hx:=List.getElem?_eq_getElem hk1
  have hy:=List.getElem?_eq_getElem hk2
  have hs:=x6 l k hk2
  generalize l[k]=x at hx hs
  generalize l[k+1]=y at hy hs
  have hlen:((bQ l).take k).length=k:=by simp;omega
  have hw2:IntKind.i64.wrap ((k:Int)+1-1)=(k:Int):=by rw[wrap64_in _ (by omega) (by omega)];omega
  have hw3:IntKind.i64.wrap ((k:Int)+1+1)=(k:Int)+1+1:=wrap64_in _ (by omega) (by omega)
  have hc:((k:Int)+1<(l.length:Int))=True:=eq_true (by omega)
  have ht:((k:Int)+1).toNat=k+1:=by omega
  have hp:(0≤(k:Int)+1)=True:=eq_true (by omega)
  generalize (bQ l).take k=L at hs hlen
  simp -implicitDefEqProofs only[↓reduceIte,go_sem,Nat.reduceLT,Nat.reduceEqDiff,reduceCtorEq,eq_self,t0,t4,hc]
  refine fu 15 K.mixed (by kernel_rfl) (by kernel_rfl) ?_
  simp -implicitDefEqProofs only[↓reduceIte,go_sem,Nat.reduceAdd,Nat.reduceLT,Nat.reduceLeDiff,Nat.reduceEqDiff,reduceCtorEq,eq_self,t0,t3,t4,hw2,hx,hy,ht,hp,ai.enc]
  refine ab.ok (qj _ (dy _).1 (dy _).2 _) ?_
  simp -implicitDefEqProofs only[↓reduceIte,go_sem,Nat.reduceLT,Nat.reduceLeDiff,Nat.reduceEqDiff,eq_self,fT,hlen,t4,tI]
  refine⟨by omega,by omega,eQ.same ⟨?_,?_⟩⟩
  ·rw[hs];rfl
  ·simp -implicitDefEqProofs only[↓reduceIte,go_sem,Nat.reduceLT,Nat.reduceEqDiff,reduceCtorEq,eq_self,t0,hw3]
   trace_state
 ·rintro s H' ⟨rfl,t0,t3,t4⟩
  have hc:(((l.length-1:Nat):Int)+1<(l.length:Int))=False:=eq_false (by omega)
  simp -implicitDefEqProofs only[↓reduceIte,go_sem,Nat.reduceLT,Nat.reduceEqDiff,reduceCtorEq,eq_self,t0,t3,t4,hc]
  refine aw.ret ?_
  simp -implicitDefEqProofs only[↓reduceIte,go_sem,Nat.reduceLT,eq_self,dD,fT,hsl]
def gL(l:List ai):List Nat:=match l with
 |[]=>[]
 |v::_=>a9 (fU v.i)++a9 (cZ (bQ l))++cI (bQ l) (cZ (bQ l))
def oV(l:List ai):AV:=if aL l 1=0∧l≠[]then .bf [.d (.list false (aG (gL l))),iA 0]else .bf [.d (.v (.slice none 0 0)),iA (aL l 1)]
theorem vd(l:List ai)(hok:∀v∈l,dF v.i)(nn:Bool)(H:aa)(hl:l.length≤1000000000000):ag Tryz.prog 87 [.d (.list nn (l.map ai.enc))] H (.ok (oV l)) H:=by
 have hbad:∀b:Bool,b=true∨b=false:=by decide
 refine ag.aj (hint:=(fun _=>false)) Tryz.func87 (by kernel_rfl) rfl [2,3] (by kernel_rfl) (by decide) (by simp[Tryz.ntmps87]) ?_
 rw[Tryz.ntmps87]
 simp -implicitDefEqProofs only[↓reduceIte,go_sem,Nat.reduceLT,reduceCtorEq,eq_self]
 refine ab.ok (dW l 1 nn _ (by omega)) ?_
 by_cases h1:aL l 1=0
 ·cases l with
  |nil=>
   simp -implicitDefEqProofs only[↓reduceIte,go_sem,Nat.reduceLT,Nat.reduceEqDiff,reduceCtorEq,eq_self,h1]
   refine aw.bq ?_
   simp -implicitDefEqProofs only[↓reduceIte,go_sem,Nat.reduceLT,Nat.reduceEqDiff,eq_self,oV,h1,Ne,not_true,and_false]
  |cons v r=>
   have hs:=fA (v::r)
   have h4:=dX h1
   have hl0:(((v::r).length:Nat):Int)=0↔False:=by simp;omega
   have hll:=hok v (by simp)
   have hss:=kR (v::r)
   simp -implicitDefEqProofs only[↓reduceIte,go_sem,Nat.reduceLT,Nat.reduceEqDiff,reduceCtorEq,eq_self,h1,show(((r.length:Nat):Int)+1=0)=False from eq_false (by omega)]
   refine ab.ok (yI (v::r) nn _ hl) ?_
   simp -implicitDefEqProofs only[↓reduceIte,go_sem,Nat.reduceLT,eq_self]
   refine ab.ok (lZ _ false _ (by omega) hss) ?_
   have hw64:=kS hss
   have hfit:=n6 (l:=bQ (v::r))
   have hzl:=gd hll.1 hll.2
   have hb:gL (v::r)=a9 (fU v.i)++a9 (cZ (bQ (v::r)))++cI (bQ (v::r)) (cZ (bQ (v::r))):=rfl
   generalize cZ (bQ (v::r))=w at*
   generalize bQ (v::r)=S at*
   simp -implicitDefEqProofs only[↓reduceIte,go_sem,Nat.reduceAdd,Nat.reduceLT,Nat.reduceLeDiff,Int.reduceLE,Int.reduceToNat,reduceCtorEq,eq_self,ai.enc]
   refine ab.ok (qj _ hll.1 hll.2 _) ?_
   simp -implicitDefEqProofs only[↓reduceIte,go_sem,Nat.reduceLT,eq_self]
   refine ab.ok (fN _ hzl _) ?_
   simp -implicitDefEqProofs only[↓reduceIte,go_sem,Nat.reduceLT,Nat.reduceEqDiff,eq_self,aU w (by omega)]
   refine ab.ok (mI w (by omega) _) ?_
   have l1:=bn 10 (fU v.i) (by omega)
   have l2:=bn 10 w (by omega)
   simp -implicitDefEqProofs only[↓reduceIte,go_sem,Nat.reduceLT,Nat.reduceEqDiff,eq_self,aS,al,eB]
   refine⟨by omega,by omega,?_⟩
   refine ab.ok (rL S w hw64 hfit (by omega) false _) ?_
   simp -implicitDefEqProofs only[↓reduceIte,go_sem,Nat.reduceLT,Nat.reduceEqDiff,eq_self,aS,al,eB,List.length_append]
   have l3:(cI S w).length≤100000:=by
    rw[cI,cx,en]
    have:S.length* w≤4096* 64:=Nat.mul_le_mul (by omega) hw64
    omega
   refine⟨by omega,by omega,aw.ret ?_⟩
   have ht:(aG (a9 (fU v.i)++(a9 w++cI S w))).take ((a9 (fU v.i)).length+(a9 w).length+(cI S w).length)=aG (a9 (fU v.i)++(a9 w++cI S w)):=dD _ _ (by rw[al,List.length_append,List.length_append];omega)
   simp -implicitDefEqProofs only[↓reduceIte,go_sem,Nat.reduceLT,Nat.reduceEqDiff,reduceCtorEq,eq_self,oV,h1,hb,ht,Ne,not_false_eq_true,and_self]
 ·simp -implicitDefEqProofs only[↓reduceIte,go_sem,Nat.reduceLT,Nat.reduceEqDiff,eq_self,h1]
  refine aw.bq ?_
  simp -implicitDefEqProofs only[↓reduceIte,go_sem,Nat.reduceLT,Nat.reduceEqDiff,eq_self,oV,h1,false_and]
def jU(l:List ai):List Nat:=if aL l 1=0∧l≠[]then gL l else[]
def bV(l:List ai)(k w:Int):List Nat×Int:=
 if w=1 then(iy l k,aL l k)else if w=2 then(se l k,aL l k)else if w=3 then(ln l k,aL l k)
 else if w=4∧k=1 then(jU l,aL l 1)else([],1)
theorem sL(l:List ai)(hok:∀v∈l,dF v.i)(nn:Bool)(H:aa)(hl:l.length≤1000000000000):ag Tryz.prog 87 [.d (.list nn (l.map ai.enc))] H (.ok (.bf [.d (.list false (aG (jU l))),iA (aL l 1)])) H:=by
 have h:=vd l hok nn H hl
 unfold oV at h
 unfold jU
 by_cases c:aL l 1=0∧l≠[]
 ·rw[if_pos c]at h⊢
  rw[c.1]
  exact h
 ·rw[if_neg c]at h⊢
  exact ag.bY h (.cons .nil (.cons (.refl _) .nil))
def sj(id:Nat)(k w:Int):Option AV:=
 if w=1 then some (.agg [.fn 75 [.ptr id 0 0 0],.fn 77 [.ptr id 0 0 0]])
 else if w=2 then some (.agg [.fn 79 [.ptr id 0 0 0],.fn 81 [.ptr id 0 0 0]])
 else if w=3 then some (.agg [.fn 83 [.ptr id 0 0 0],.fn 85 [.ptr id 0 0 0]])
 else if w=4∧k=1 then some (.agg [.fn 87 [],.fn 88 []])else none
theorem pE(id:Nat)(k w:Int):eT w (gR id k)=sj id k w:=by
 unfold gR sj
 by_cases h1:w=1
 ·subst h1;rfl
 by_cases h2:w=2
 ·subst h2;rfl
 by_cases h3:w=3
 ·subst h3;rfl
 rw[if_neg h1,if_neg h2,if_neg h3]
 by_cases hk:k=1
 ·subst hk
  by_cases h4:w=4
  ·subst h4;rfl
  ·simp[eT,fI,h1,h2,h3,h4]
 ·rw[if_neg hk,if_neg (fun h=>hk h.2)]
  simp[eT,fI,h1,h2,h3]
theorem rY(l:List ai)(k w:Int)(hok:∀v∈l,dF v.i)(hl:l.length≤1000000000)(H:aa):
  ag Tryz.prog 31 [.d (.list false (l.map ai.enc)),iA k,iA w] H (.ok (.bf [.d (.list false (aG (bV l k w).1)),iA (bV l k w).2])) H:=by
 have hg:=fun id=>pE id k w
 unfold sj at hg
 unfold bV
 have hk:∀T:aa,((H++kB k::T):aa)[H.length]?=some (kB k):=fun T=>by simp
 by_cases h1:w=1
 ·subst h1
  simp only[if_true]at hg⊢
  refine ag.aj (hint:=(fun _=>false)) Tryz.func31 (by kernel_rfl) rfl [6,7] (by kernel_rfl) (by decide) (by simp[Tryz.ntmps31]) ?_
  rw[Tryz.ntmps31]
  simp -implicitDefEqProofs only[↓reduceIte,go_sem,Nat.reduceLT,Nat.reduceEqDiff,eq_self]
  refine ab.ok (eJ k _) ?_
  simp -implicitDefEqProofs only[↓reduceIte,go_sem,ah,ak,Nat.reduceAdd,Nat.reduceLT,Nat.reduceLeDiff,Nat.reduceEqDiff,reduceCtorEq,eq_self,hg,Option.getD_some,Option.isSome_some]
  refine ab.ok (qR l k hok hl _ H.length (hk _)) ?_
  simp -implicitDefEqProofs only[↓reduceIte,go_sem,Nat.reduceLT,Nat.reduceEqDiff,eq_self]
  refine aw.ret ?_
  simp -implicitDefEqProofs only[↓reduceIte,go_sem,Nat.reduceLT,Nat.reduceEqDiff,eq_self]
 rw[if_neg h1]at⊢
 simp only[if_neg h1]at hg
 by_cases h2:w=2
 ·subst h2
  simp only[if_true]at hg⊢
  refine ag.aj (hint:=(fun _=>false)) Tryz.func31 (by kernel_rfl) rfl [6,7] (by kernel_rfl) (by decide) (by simp[Tryz.ntmps31]) ?_
  rw[Tryz.ntmps31]
  simp -implicitDefEqProofs only[↓reduceIte,go_sem,Nat.reduceLT,Nat.reduceEqDiff,eq_self]
  refine ab.ok (eJ k _) ?_
  simp -implicitDefEqProofs only[↓reduceIte,go_sem,ah,ak,Nat.reduceAdd,Nat.reduceLT,Nat.reduceLeDiff,Nat.reduceEqDiff,reduceCtorEq,eq_self,hg,Option.getD_some,Option.isSome_some]
  refine ab.ok (v9 l k hok hl _ H.length (hk _)) ?_
  simp -implicitDefEqProofs only[↓reduceIte,go_sem,Nat.reduceLT,Nat.reduceEqDiff,eq_self]
  refine aw.ret ?_
  simp -implicitDefEqProofs only[↓reduceIte,go_sem,Nat.reduceLT,Nat.reduceEqDiff,eq_self]
 rw[if_neg h2]at⊢
 simp only[if_neg h2]at hg
 by_cases h3:w=3
 ·subst h3
  simp only[if_true]at hg⊢
  refine ag.aj (hint:=(fun _=>false)) Tryz.func31 (by kernel_rfl) rfl [6,7] (by kernel_rfl) (by decide) (by simp[Tryz.ntmps31]) ?_
  rw[Tryz.ntmps31]
  simp -implicitDefEqProofs only[↓reduceIte,go_sem,Nat.reduceLT,Nat.reduceEqDiff,eq_self]
  refine ab.ok (eJ k _) ?_
  simp -implicitDefEqProofs only[↓reduceIte,go_sem,ah,ak,Nat.reduceAdd,Nat.reduceLT,Nat.reduceLeDiff,Nat.reduceEqDiff,reduceCtorEq,eq_self,hg,Option.getD_some,Option.isSome_some]
  refine ab.ok (th l k hok hl _ H.length (hk _)) ?_
  simp -implicitDefEqProofs only[↓reduceIte,go_sem,Nat.reduceLT,Nat.reduceEqDiff,eq_self]
  refine aw.ret ?_
  simp -implicitDefEqProofs only[↓reduceIte,go_sem,Nat.reduceLT,Nat.reduceEqDiff,eq_self]
 rw[if_neg h3]at⊢
 simp only[if_neg h3]at hg
 by_cases h4:w=4∧k=1
 ·simp only[if_pos h4]at hg⊢
  refine ag.aj (hint:=(fun _=>false)) Tryz.func31 (by kernel_rfl) rfl [6,7] (by kernel_rfl) (by decide) (by simp[Tryz.ntmps31]) ?_
  rw[Tryz.ntmps31]
  simp -implicitDefEqProofs only[↓reduceIte,go_sem,Nat.reduceLT,Nat.reduceEqDiff,eq_self]
  refine ab.ok (eJ k _) ?_
  simp -implicitDefEqProofs only[↓reduceIte,go_sem,ah,ak,Nat.reduceAdd,Nat.reduceLT,Nat.reduceLeDiff,Nat.reduceEqDiff,reduceCtorEq,eq_self,hg,Option.getD_some,Option.isSome_some]
  refine ab.ok (sL l hok false _ (by omega)) ?_
  simp -implicitDefEqProofs only[↓reduceIte,go_sem,Nat.reduceLT,Nat.reduceEqDiff,eq_self]
  refine aw.ret ?_
  simp -implicitDefEqProofs only[↓reduceIte,go_sem,Nat.reduceLT,Nat.reduceEqDiff,eq_self]
 simp only[if_neg h4]at hg⊢
 refine ag.bY (cs:=[.d (.v (.slice none 0 0)),iA 1]) ?_ (.cons .nil (.cons (.refl _) .nil))
 refine ag.aj (hint:=(fun _=>false)) Tryz.func31 (by kernel_rfl) rfl [6,7] (by kernel_rfl) (by decide) (by simp[Tryz.ntmps31]) ?_
 rw[Tryz.ntmps31]
 simp -implicitDefEqProofs only[↓reduceIte,go_sem,Nat.reduceLT,Nat.reduceEqDiff,eq_self]
 refine ab.ok (eJ k _) ?_
 simp -implicitDefEqProofs only[↓reduceIte,go_sem,ak,Nat.reduceAdd,Nat.reduceLT,Nat.reduceEqDiff,eq_self,hg,Option.getD_none,Option.isSome_none]
 refine aw.ret ?_
 simp -implicitDefEqProofs only[↓reduceIte,go_sem,Nat.reduceLT,Nat.reduceEqDiff,eq_self]
def lq(l:List ai)(k:Int)(x:Int×Int)(c:Int):Int×Int:=if(bV l k c).2=0∧(x.1<0∨((bV l k c).1.length:Int)<x.1)then((bV l k c).1.length,c)else x
def dT(l:List ai)(k:Int):Nat→Int×Int
 |0=>(-1,0)
 |n+1=>lq l k (dT l k n) ((n:Int)+1)
def px(l:List ai)(k:Int):Int:=(dT l k 4).2
theorem Ao(l:List ai)(k:Int)(hok:∀v∈l,dF v.i)(hl:l.length≤1000000000)(H:aa):
  ag Tryz.prog 30 [.d (.list false (l.map ai.enc)),iA k] H (.ok (iA (px l k))) H:=by
 have hb:=fun w H=>rY l k w hok hl H
 have hst:∀n,dT l k (n+1)=lq l k (dT l k n) ((n:Int)+1):=fun n=>rfl
 have hfin:px l k=(dT l k 4).2:=rfl
 rw[hfin]
 have h0:dT l k 0=(-1,0):=rfl
 generalize dT l k=st at*
 refine ag.aj (hint:=(fun _=>false)) Tryz.func30 (by kernel_rfl) rfl [4] (by kernel_rfl) (by decide) (by simp[Tryz.ntmps30]) ?_
 rw[Tryz.ntmps30]
 simp -implicitDefEqProofs only[go_sem,Int.reduceNeg]
 refine cC _ _ _ _ (fun(n:Nat) s H'=>H'=H∧n≤4∧s 0= .d (.list false (l.map ai.enc))∧s 1=iA k∧s 5=iA (st n).1∧s 6=iA (st n).2∧s 7=iA ((n:Int)+1)) (fun n=>4-n) 0 (ar.refl _ _) ?_ ?_
 ·refine⟨rfl,by omega,?_⟩
  rw[h0]
  simp -implicitDefEqProofs only[↓reduceIte,go_sem,Nat.reduceLT,Nat.reduceEqDiff,Int.reduceAdd,Int.reduceNeg,reduceCtorEq,eq_self]
 ·rintro n s H' ⟨rfl,hn,t0,t1,t5,t6,t7⟩
  by_cases h4:n<4
  ·have hs:=hst n
   have hb1:=hb ((n:Int)+1)
   have wn:IntKind.i64.wrap ((n:Int)+1+1)=(n:Int)+1+1:=wrap64_in _ (by omega) (by omega)
   unfold lq at hs
   generalize st n=x at*
   obtain⟨x1,x2⟩:=x
   simp only at hs t5 t6
   generalize hbp:bV l k ((n:Int)+1)=q at*
   obtain⟨bs,e⟩:=q
   simp only at hs hb1
   simp -implicitDefEqProofs only[↓reduceIte,go_sem,Nat.reduceLT,Nat.reduceEqDiff,reduceCtorEq,eq_self,t0,t1,t7,show(((n:Int)+1)≤4)=True from eq_true (by omega)]
   refine ab.ok (hb1 _) ?_
   by_cases he:e=0
   ·by_cases h1:x1<0
    ·rw[if_pos ⟨he,.inl h1⟩]at hs
     simp -implicitDefEqProofs only[↓reduceIte,go_sem,Nat.reduceLT,Nat.reduceEqDiff,eq_self,t5,t7,he,h1,al,wn]
     refine⟨_,_,n+1,ar.refl _ _,⟨rfl,by omega,?_⟩,by omega⟩
     rw[hs]
     simp -implicitDefEqProofs only[↓reduceIte,go_sem,Nat.reduceLT,Nat.reduceEqDiff,reduceCtorEq,eq_self,t0,t1]
    ·by_cases h2:(bs.length:Int)<x1
     ·rw[if_pos ⟨he,.inr h2⟩]at hs
      simp -implicitDefEqProofs only[↓reduceIte,go_sem,Nat.reduceLT,Nat.reduceEqDiff,reduceCtorEq,eq_self,t5,t7,he,h1,h2,al,wn]
      refine⟨_,_,n+1,ar.refl _ _,⟨rfl,by omega,?_⟩,by omega⟩
      rw[hs]
      simp -implicitDefEqProofs only[↓reduceIte,go_sem,Nat.reduceLT,Nat.reduceEqDiff,reduceCtorEq,eq_self,t0,t1]
     ·rw[if_neg (fun h=>h.2.elim h1 h2)]at hs
      simp -implicitDefEqProofs only[↓reduceIte,go_sem,Nat.reduceLT,Nat.reduceEqDiff,reduceCtorEq,eq_self,t5,t7,he,h1,h2,al,wn]
      refine⟨_,_,n+1,ar.refl _ _,⟨rfl,by omega,?_⟩,by omega⟩
      rw[hs]
      simp -implicitDefEqProofs only[↓reduceIte,go_sem,Nat.reduceLT,Nat.reduceEqDiff,reduceCtorEq,eq_self,t0,t1,t5,t6]
   ·rw[if_neg (fun h=>he h.1)]at hs
    simp -implicitDefEqProofs only[↓reduceIte,go_sem,Nat.reduceLT,Nat.reduceEqDiff,reduceCtorEq,eq_self,t7,he,wn]
    refine⟨_,_,n+1,ar.refl _ _,⟨rfl,by omega,?_⟩,by omega⟩
    rw[hs]
    simp -implicitDefEqProofs only[↓reduceIte,go_sem,Nat.reduceLT,Nat.reduceEqDiff,reduceCtorEq,eq_self,t0,t1,t5,t6]
  ·obtain rfl:n=4:=by omega
   simp -implicitDefEqProofs only[↓reduceIte,go_sem,Nat.reduceLT,Nat.reduceEqDiff,Int.reduceLE,Int.reduceAdd,eq_self,t6,t7]
   refine aw.bq ?_
   simp -implicitDefEqProofs only[↓reduceIte,go_sem,Nat.reduceLT,eq_self]
def cr(l:List Bool):List (List D):=l.map fun b=>[.v (.bool b)]
theorem de(l:List Bool):(cr l).length=l.length:=by simp[cr]
theorem nH(l:List Bool)(k:Nat)(h:k<l.length):(cr l)[k]?=some [.v (.bool l[k])]:=by simp[cr,h]
theorem pa(l:List Bool)(b:Bool):cr l++[[.v (.bool b)]]=cr (l++[b]):=by simp[cr]
def aE(l:List Bool):Nat:=l.countP (·==true)
theorem tL(l:List Bool)(b:Bool):aE (l++[b])=if b then aE l+1 else aE l:=by
 unfold aE
 rw[List.countP_append]
 cases b<;>simp
theorem fj(l:List Bool):aE l≤l.length:=List.countP_le_length
theorem pW(l:List Bool)(nn:Bool)(hl:l.length≤1000000000000)(H:aa):ag Tryz.prog 47 [.d (.list nn (cr l))] H (.ok (iA (aE l))) H:=by
 refine ag.aj (hint:=(fun _=>false)) Tryz.func47 (by kernel_rfl) rfl [2] (by kernel_rfl) (by decide) (by simp[Tryz.ntmps47]) ?_
 rw[Tryz.ntmps47]
 simp -implicitDefEqProofs only[↓reduceIte,go_sem,Nat.reduceLT,reduceCtorEq,eq_self]
 refine bl (fun k s H'=>H'=H∧s 3=iA (aE (l.take k))∧s 6= .d (.list nn (cr l))∧s 7=iA l.length∧s 8=iA k) l.length (by omega) (ar.refl _ _) ?_ ?_ ?_
 ·refine⟨rfl,?_⟩
  simp -implicitDefEqProofs only[↓reduceIte,go_sem,Nat.reduceLT,Nat.reduceEqDiff,eq_self,de]
  rfl
 ·rintro k s H' hk hw ⟨rfl,t3,t6,t7,t8⟩
  have hx:=nH l k hk
  have e1:=tL (l.take k) l[k]
  rw[←List.take_succ_eq_append_getElem hk]at e1
  have hle:=fj (l.take k)
  rw[List.length_take]at hle
  rw[e1]
  generalize l[k]=b at*
  generalize aE (l.take k)=c at*
  have wc:IntKind.i64.wrap ((c:Int)+1)=((c+1:Nat):Int):=by rw[wrap64_in _ (by omega) (by omega)];rfl
  cases b with
  |true=>
   simp -implicitDefEqProofs only[↓reduceIte,go_sem,Nat.reduceLT,Nat.reduceEqDiff,eq_self,t3,t6,t7,t8,hk,hx,wc]
   refine eQ.same ⟨rfl,?_⟩
   simp -implicitDefEqProofs only[↓reduceIte,go_sem,Nat.reduceLT,Nat.reduceEqDiff,eq_self,t6,t7,hw]
  |false=>
   simp -implicitDefEqProofs only[↓reduceIte,go_sem,Nat.reduceLT,Nat.reduceEqDiff,reduceCtorEq,eq_self,t6,t7,t8,hk,hx]
   refine eQ.same ⟨rfl,?_⟩
   simp -implicitDefEqProofs only[↓reduceIte,go_sem,Nat.reduceLT,Nat.reduceEqDiff,eq_self,t3,t6,t7,hw]
 ·rintro s H' ⟨rfl,t3,t6,t7,t8⟩
  rw[List.take_length]at t3
  simp -implicitDefEqProofs only[↓reduceIte,go_sem,Nat.reduceLT,Nat.reduceEqDiff,eq_self,t3,t7,t8]
  refine aw.bq ?_
  simp -implicitDefEqProofs only[↓reduceIte,go_sem,Nat.reduceLT,eq_self]
theorem uj(l:List Bool)(nn:Bool)(hl:l.length≤1000000)(H:aa):ag Tryz.prog 35 [.d (.list nn (cr l))] H (.ok (.d (.list false (aG (bW l))))) H:=by
 have z0:wH H []=H++[.box 125 2 0 1 [.sl (H.length+1) 0 0 0,iA 0],.arr 5 1 0 []]:=rfl
 refine ag.aj (hint:=(fun t=>t==1000002)) Tryz.func35 (by kernel_rfl) rfl [2] (by kernel_rfl) (by decide) (by simp[Tryz.ntmps35]) ?_
 rw[Tryz.ntmps35]
 simp -implicitDefEqProofs only[↓reduceIte,go_sem,Nat.reduceAdd,Nat.reduceLT,Nat.reduceBEq,eq_self]
 refine⟨_,_,ar.kK _ _ H.length 125 2 0 1 [.d (.v (.slice none 0 0)),iA 0] 0 _ 5 1 (by decide) (by simp) rfl rfl,?_⟩
 simp -implicitDefEqProofs only[↓reduceIte,go_sem,reduceCtorEq]
 rw[←z0]
 refine bl (fun k s H'=>H'=wH H (l.take k)∧s 3= .ptr H.length 0 0 0∧s 9= .d (.list nn (cr l))∧s 10=iA l.length∧s 11=iA k) l.length (by omega) (ar.refl _ _) ?_ ?_ ?_
 ·refine⟨rfl,?_⟩
  simp -implicitDefEqProofs only[↓reduceIte,go_sem,Nat.reduceLT,Nat.reduceEqDiff,reduceCtorEq,eq_self,de]
 ·rintro k s H' hk hw ⟨rfl,t3,t9,t10,t11⟩
  have hx:=nH l k hk
  have e1:=List.take_succ_eq_append_getElem hk
  have b1:cN 1 1=[true]:=by decide
  have b0:cN 0 1=[false]:=by decide
  have hp1:=kH 1 1 (by decide) (by decide) H (l.take k) (by rw[List.length_take];omega)
  have hp0:=kH 0 1 (by decide) (by decide) H (l.take k) (by rw[List.length_take];omega)
  rw[b1]at hp1
  rw[b0]at hp0
  rw[e1]
  generalize l[k]=b at*
  cases b with
  |true=>
   simp -implicitDefEqProofs only[↓reduceIte,go_sem,Nat.reduceAdd,Nat.reduceLT,Nat.reduceEqDiff,Nat.reduceBEq,eq_self,t3,t9,t10,t11,hk,hx]
   refine ab.ok hp1 ?_
   simp -implicitDefEqProofs only[↓reduceIte,go_sem,Nat.reduceAdd,Nat.reduceLT,Nat.reduceEqDiff,Nat.reduceBEq,eq_self,t11]
   refine eQ.same ⟨rfl,?_⟩
   simp -implicitDefEqProofs only[↓reduceIte,go_sem,Nat.reduceLT,Nat.reduceEqDiff,eq_self,t3,t9,t10,hw]
  |false=>
   simp -implicitDefEqProofs only[↓reduceIte,go_sem,Nat.reduceAdd,Nat.reduceLT,Nat.reduceEqDiff,Nat.reduceBEq,eq_self,t3,t9,t10,t11,hk,hx]
   refine ab.ok hp0 ?_
   simp -implicitDefEqProofs only[↓reduceIte,go_sem,Nat.reduceAdd,Nat.reduceLT,Nat.reduceEqDiff,Nat.reduceBEq,eq_self,t11]
   refine eQ.same ⟨rfl,?_⟩
   simp -implicitDefEqProofs only[↓reduceIte,go_sem,Nat.reduceLT,Nat.reduceEqDiff,eq_self,t3,t9,t10,hw]
 ·rintro s H' ⟨rfl,t3,t9,t10,t11⟩
  rw[List.take_length]
  simp -implicitDefEqProofs only[↓reduceIte,go_sem,Nat.reduceAdd,Nat.reduceLT,Nat.reduceEqDiff,Nat.reduceBEq,eq_self,t3,t10,t11]
  refine ab.ok (nP H l (by omega)) ?_
  simp -implicitDefEqProofs only[↓reduceIte,go_sem,Nat.reduceLT,eq_self]
  unfold wH
  refine aw.ret ?_
  simp -implicitDefEqProofs only[↓reduceIte,go_sem,Nat.reduceLT,eq_self]
def vT(b:List Nat)(n:Nat):List Bool:=(bu b n 1).map fun x=>decide (x=1)
theorem DK(b:List Nat)(n:Nat)(hl:b.length≤140737488351232)(hb:∀c∈b,c<256)(hn:n≤1048576)(H:aa):
  ag Tryz.prog 44 [.d (.list false (aG b)),iA n] H (.ok (.bf [.d (.list false (cr (if bG b n 1=0 then vT b n else[]))),iA (bG b n 1)])) H:=by
 have hu:=fun H=>jY b n 1 false hl hb hn (by decide) H
 have hLl:=cW b n 1
 have hLt:=jJ b n 1 (by decide)
 unfold gY at hu
 unfold vT
 generalize bu b n 1=L at*
 generalize bG b n 1=e at*
 by_cases he:e=0
 ·subst he
  rw[if_pos rfl]at hu
  rw[if_pos rfl]
  refine ag.aj (hint:=(fun _=>false)) Tryz.func44 (by kernel_rfl) rfl [4,5] (by kernel_rfl) (by decide) (by simp[Tryz.ntmps44]) ?_
  rw[Tryz.ntmps44]
  simp -implicitDefEqProofs only[↓reduceIte,go_sem,Nat.reduceLT,Nat.reduceEqDiff,reduceCtorEq,eq_self]
  refine ab.ok (hu _) ?_
  simp -implicitDefEqProofs only[↓reduceIte,go_sem,Nat.reduceLT,Nat.reduceEqDiff,eq_self]
  refine bl (fun k s H'=>H'=H++[.arr 4 1 k (cr ((L.take k).map fun x=>decide (x=1)))]∧s 8= .sl H.length k 0 k∧s 20= .d (.list false (us L))∧s 21=iA L.length∧s 22=iA k) L.length (by omega) (ar.eU _ _ 8 4 1 (by decide) (by simp -implicitDefEqProofs only[↓reduceIte,go_sem,Nat.reduceLT,Nat.reduceEqDiff,eq_self]) _) ?_ ?_ ?_
  ·refine⟨rfl,?_⟩
   simp -implicitDefEqProofs only[↓reduceIte,go_sem,Nat.reduceLT,Nat.reduceEqDiff,eq_self,fT]
  ·rintro k s H' hk hw ⟨rfl,t8,t20,t21,t22⟩
   have hx:=nJ L k hk
   have e1:(L.take (k+1)).map (fun x=>decide (x=1))=(L.take k).map (fun x=>decide (x=1))++[decide (L[k]=1)]:=by rw[List.take_succ_eq_append_getElem hk,List.map_append];rfl
   have hml:((L.take k).map fun x=>decide (x=1)).length=k:=by rw[List.length_map,List.length_take];omega
   have hd:decide ((L[k]:Int)=1)=decide (L[k]=1):=decide_eq_decide.2 (by omega)
   rw[e1]
   generalize (L.take k).map (fun x=>decide (x=1))=B at*
   generalize hdv:decide (L[k]=1)=dv at*
   simp -implicitDefEqProofs only[↓reduceIte,go_sem,Nat.reduceLT,Nat.reduceLeDiff,Nat.reduceEqDiff,eq_self,t8,t20,t21,t22,hk,hx,hd,de,hml,pa]
   refine⟨by omega,by omega,?_⟩
   refine eQ.same ⟨rfl,?_⟩
   simp -implicitDefEqProofs only[↓reduceIte,go_sem,Nat.reduceLT,Nat.reduceEqDiff,eq_self,t20,t21,hw]
  ·rintro s H' ⟨rfl,t8,t20,t21,t22⟩
   rw[List.take_length]
   simp -implicitDefEqProofs only[↓reduceIte,go_sem,Nat.reduceLT,Nat.reduceEqDiff,eq_self,t8,t21,t22]
   refine aw.ret ?_
   simp -implicitDefEqProofs only[↓reduceIte,go_sem,Nat.reduceLT,Nat.reduceEqDiff,eq_self,List.take_of_length_le (show(cr (L.map fun x=>decide (x=1))).length≤L.length by rw[de,List.length_map];exact Nat.le_refl _)]
 ·rw[if_neg he]at hu
  rw[if_neg he]
  refine ag.bY (cs:=[.d (.v (.slice none 0 0)),iA e]) ?_ (.cons .nil (.cons (.refl _) .nil))
  refine ag.aj (hint:=(fun _=>false)) Tryz.func44 (by kernel_rfl) rfl [4,5] (by kernel_rfl) (by decide) (by simp[Tryz.ntmps44]) ?_
  rw[Tryz.ntmps44]
  simp -implicitDefEqProofs only[↓reduceIte,go_sem,Nat.reduceLT,Nat.reduceEqDiff,reduceCtorEq,eq_self]
  refine ab.ok (hu _) ?_
  simp -implicitDefEqProofs only[↓reduceIte,go_sem,Nat.reduceLT,Nat.reduceEqDiff,eq_self,he]
  refine aw.bq ?_
  simp -implicitDefEqProofs only[↓reduceIte,go_sem,Nat.reduceLT,Nat.reduceEqDiff,eq_self]
end Go.Proofs.YtmbagpfmfiegkaaGreat
namespace Go.Proofs.YtmbagpfmfiegkaaGreatAw
open Go.RowKit
section
variable (P:Program) (hint:Nat→Bool) (n:Nat) (y:Code) (m:Nat) (In:aa→Prop) (Ix:AX→aa→Prop) (H Hk:aa) (s:Nat→AV)
def EH:aP:=fun e s2 H3=>∃s3 H4,ar Hk s2 H3 s3 H4∧H4.length=m∧(match e with| .normal=>In H4| .panic _=>False|e=>Ix e H4)
def I9:aP:=fun e s1 H2=>match e with| .normal=>cO P hint n Hk y (EH m In Ix Hk) s1 H2|_=>False
theorem xG:I9 P hint n y m In Ix Hk .normal s H=cO P hint n Hk y (EH m In Ix Hk) s H:=rfl
theorem vK(t:Tmp)(v:AV):jn n s [t] [v]=bJ n s (some t) v:=rfl
end
attribute [go_sem] xG vK
@[congr] theorem Kt {P:Program} {hint:Nat→Bool} {n:Nat} {y:Code} {m:Nat} {In:aa→Prop} {Ix:AX→aa→Prop} {Hk:aa} {e:AX} {s:Nat→AV} {H H':aa} (h:nf H=H'):I9 P hint n y m In Ix Hk e s H=I9 P hint n y m In Ix Hk e s H':=by rw[←h];rfl
@[congr] theorem Jo {m:Nat} {In:aa→Prop} {Ix:AX→aa→Prop} {Hk:aa} {e:AX} {s:Nat→AV} {H H':aa} (h:nf H=H'):EH m In Ix Hk e s H=EH m In Ix Hk e s H':=by rw[←h];rfl
theorem EH.cut{m:Nat}{In:aa→Prop}{Ix:AX→aa→Prop}{H ob0:aa}{s:Nat→AV}(fg T:aa){H3:aa}(e:H3=H++(fg++T))(hk:fg.length=ob0.length)(hm:m=(H++ob0).length)(hb:fg.all (aA.below m)=true)
  (hi:In (H++fg)):EH m In Ix (H++ob0) .normal s H3:=by
 subst e
 have hl:(H++fg).length=m:=by rw[hm];simp[hk]
 have hw:=ar.vj (H0:=H++ob0) s (H++(fg++T)) m (by omega) (by rw[←hl];simp) fun i o h1 ho=>by
  rw[←List.append_assoc,List.getElem?_append_left (by omega)]at ho
  rcases Nat.lt_or_ge i H.length with hi|hi
  ·rw[List.getElem?_append_left hi]at ho
   exact .inl (by rw[List.getElem?_append_left hi];exact ho)
  ·rw[List.getElem?_append_right hi]at ho
   rw[List.all_eq_true]at hb
   exact .inr (hb o (List.mem_of_getElem? ho))
 rw[show(H++(fg++T)).take m=H++fg from by rw[←List.append_assoc,←hl,List.take_left]]at hw
 exact⟨_,_,hw,hl,hi⟩
theorem EH.same{m:Nat}{In:aa→Prop}{Ix:AX→aa→Prop}{Hk H3:aa}{s:Nat→AV}(hl:H3.length=m)(hi:In H3):EH m In Ix Hk .normal s H3:=⟨s,H3,.refl _ _,hl,hi⟩
theorem rI{P:Program}{hint:Nat→Bool}{n:Nat}{H0:aa}{g:Operand}{ps:Array Tmp}{x y:Code}{Q:aP}{s s0:Nat→AV}{H H1:aa}(hint':Nat→Bool){gf:FuncId}{caps:List AV}{xs:List (List AV)}{C:aa→Prop}(I:Nat→aa→Prop)(Ix:AX→aa→Prop)
  (hm:hint 2000000=true) (hm':hint' 2000000=false) (hW:ar H0 s H s0 H1) (hg:ae s0 g= .fn gf caps) (hs:As P gf caps C xs) (hx:∀v∈xs,v.length=ps.size∧∀u∈v,jA H1.length u=true) (h0:I 0 H1) (hC:∀k Hk,I k Hk→C Hk∧Hk.length=H1.length)
  (round:∀k (hk:k<xs.length) Hk,I k Hk→cO P hint' n Hk x (I9 P hint' n y H1.length (I (k+1)) Ix Hk) (jn n s0 ps.toList (xs[k])) Hk)
  (done:∀Hn,I xs.length Hn→Q .normal s0 Hn) (stop:∀e Hx,Ix e Hx→Q e s0 Hx):cO P hint n H0 (.rangeFunc g ps x y) Q s H:=by
 refine⟨hm,hint',gf,caps,xs,C,I,Ix,s0,H1,hm',hW,hg,hs,fun v hv=>⟨(hx v hv).1,fun u hu=>Hm ((hx v hv).2 u hu)⟩,h0,hC,fun k hk Hk hI=>?_,done,stop⟩
 exact round k hk Hk hI
theorem Ax.mono{m m':Nat}{o:aA}(h:Ax m o)(hm:m≤m'):Ax m' o:=
 ⟨fun e k ver n cs he c hc=>(h.1 e k ver n cs he c hc).mono hm,fun kk es he e hx=>(h.2.1 kk es he e hx).mono hm,fun a b c he=>Nat.lt_of_lt_of_le (h.2.2.1 a b c he) hm,fun r s he t=>(h.2.2.2 r s he t).mono hm⟩
theorem D7{m:Nat}{Hs Hk:aa}{r r':Loop}{s:Nat→AV}(hb:kW m Hk)(hl:Hk.length=m)(hs:∀t,jS m (s t)):∀(i:Nat) (o:aA),(Hk++[aA.lp r' s])[i]?=some o→(Hs++[aA.lp r s])[i]?=some o∨Ax (m+1) o:=by
 intro i o h
 right
 rcases qy h with⟨h1,_⟩|⟨_,rfl⟩
 ·exact(hb i o h1).mono (by omega)
 ·exact⟨fun _ _ _ _ _ he=>(by cases he),fun _ _ he=>(by cases he),fun _ _ _ he=>(by cases he),fun _ _ he t=>(by cases he;exact(hs t).mono (by omega))⟩
theorem ar.iter{m:Nat}{Hs Hk T H:aa}{r r':Loop}{s0 s:Nat→AV}(e:H=Hk++([.lp r' s0]++T))(hb:kW m Hk)(hl:Hk.length=m)(hl':Hs.length=m)(hs:∀t,jS m (s0 t)):ar (Hs++[.lp r s0]) s H (fun t=>p6 H (m+1) (s t)) (Hk++[.lp r' s0]):=by
 subst e
 have hlen:(Hk++[aA.lp r' s0]).length=m+1:=by simp[hl]
 have hw:=ar.ED (H0:=Hs++[.lp r s0]) s (Hk++([.lp r' s0]++T)) (m+1) (by simp[hl']) (by simp;omega) fun i o h1 ho=>by
  rw[←List.append_assoc,List.getElem?_append_left (by omega)]at ho
  exact D7 hb hl hs i o ho
 rwa[show(Hk++([aA.lp r' s0]++T)).take (m+1)=Hk++[.lp r' s0]from by rw[←List.append_assoc,←hlen,List.take_left]]at hw
theorem EK(H:aa)(m id:Nat):p6 H m (.jI id)=if id<m then .jI id else .top:=rfl
attribute [go_sem] EK
end Go.Proofs.YtmbagpfmfiegkaaGreatAw
namespace Go.Proofs.YtmbagpfmfiegkaaGreat
open Go.Proofs.YtmbagpfmfiegkaaGreatAw Go.RowKit
theorem EV{x:AV}(h:jc Tryz.prog 3 x):∃n:Int,x= .d (.v (.int .i64 n))∧dF n:=by
 obtain⟨d,rfl,hf⟩:=oK h K.Gt (sh:= .int .i64) (by kernel_rfl)
 obtain⟨n,rfl,hn⟩:=Fits.sJ hf
 exact⟨n,rfl,hn⟩
theorem Dr{x:AV}(h:jc Tryz.prog 42 x):∃l:List ai,x= .d (.list false (l.map ai.enc))∧l.length≤140737488351232∧∀a∈l,a.Ok:=by
 obtain⟨d,rfl,hf⟩:=oK h K.Ga (sh:= .slice 32 Ey) (by kernel_rfl)
 obtain⟨l,rfl,hl,hn⟩:=Dx hf
 exact⟨l,rfl,by omega,hn⟩
def aB(l:List ai):List ai:=l.filter fun v=>decide (v.kind≠0)
def qk(l:List ai):List (List AV):=(aB l).map fun v=>[v.av]
abbrev lB(l:List ai):aA:= .box 42 1 0 1 [.d (.list false (l.map ai.enc))]
theorem yC(l:List ai)(v:ai):aB (l++[v])=if v.kind=0 then aB l else aB l++[v]:=by
 unfold aB
 rw[List.filter_append]
 by_cases h:v.kind=0<;>simp[h]
theorem DB(l:List ai){k:Nat}(hk:k<l.length)(hz:l[k].kind≠0):∃h:(aB (l.take k)).length<(qk l).length,(qk l)[(aB (l.take k)).length]=[l[k].av]:=by
 have e:aB l=aB (l.take k)++l[k]::aB (l.drop (k+1)):=by
  have h1:l=l.take k++(l[k]::l.drop (k+1)):=by rw[←List.drop_eq_getElem_cons hk,List.take_append_drop]
  have h2:aB (l.take k++(l[k]::l.drop (k+1)))=aB (l.take k)++l[k]::aB (l.drop (k+1)):=by
   unfold aB
   rw[List.filter_append,List.filter_cons,if_pos (by simpa using hz)]
  rw[←h1]at h2
  exact h2
 unfold qk
 rw[e]
 refine⟨by simp,?_⟩
 simp
theorem nE(l:List ai)(H:aa):ag Tryz.prog 57 [.d (.list false (l.map ai.enc))] H (.ok (.fn 101 [.ptr H.length 0 0 0])) (H++[lB l]):=by
 refine ag.aj (hint:=(fun _=>false)) Tryz.func57 (by kernel_rfl) rfl [2] (by kernel_rfl) (by decide) (by simp[Tryz.ntmps57]) ?_
 rw[Tryz.ntmps57]
 simp -implicitDefEqProofs only[↓reduceIte,go_sem,Nat.reduceLT,Nat.reduceEqDiff,eq_self]
 exact⟨_,ar.refl _ _,by simp -implicitDefEqProofs only[↓reduceIte,go_sem,Nat.reduceLT,eq_self]⟩
theorem zC(l:List ai)(id:Nat)(hl:l.length≤1000000000000):As Tryz.prog 101 [.ptr id 0 0 0] (fun H=>H[id]?=some (lB l)) (qk l):=by
 intro r s0 J Jx m Hs h0 hsb hJ hY
 refine zu.aj (hint:=fun t=>t==3000000) Tryz.func101 (by kernel_rfl) rfl [] (by kernel_rfl) (by decide) (by simp[Tryz.ntmps101]) ?_
 rw[Tryz.ntmps101]
 obtain⟨hC0,_,hl0⟩:=hJ 0 Hs h0
 have hx0:(Hs++[aA.lp r s0])[id]?=some (lB l):=by rw[List.getElem?_append_left (ao hC0)];exact hC0
 simp -implicitDefEqProofs only[↓reduceIte,go_sem,ah,Nat.reduceLT,eq_self,hx0]
 refine bl (fun k s H'=>∃Hk,J (aB (l.take k)).length Hk∧H'=Hk++[.lp r s0]∧s 0= .jI m∧s 5= .d (.list false (l.map ai.enc))∧s 6=iA l.length∧s 7=iA k) l.length (by omega) (ar.refl _ _) ?_ ?_ ?_
 ·refine⟨Hs,h0,rfl,?_⟩
  simp -implicitDefEqProofs only[↓reduceIte,go_sem,Nat.reduceLT,Nat.reduceEqDiff,reduceCtorEq,eq_self]
 ·rintro k s H' hk hw ⟨Hk,hJk,rfl,t0,t5,t6,t7⟩
  have hx:(l.map ai.enc)[k]?=some [.v (.int .i64 l[k].kind),.v (.int .i64 l[k].i),.v (.string l[k].s)]:=by rw[List.getElem?_map,List.getElem?_eq_getElem hk];rfl
  have e1:=yC (l.take k) l[k]
  rw[←List.take_succ_eq_append_getElem hk]at e1
  obtain⟨hCk,hbk,hlk⟩:=hJ _ _ hJk
  by_cases hz:l[k].kind=0
  ·rw[if_pos hz]at e1
   generalize l[k]=v at*
   simp -implicitDefEqProofs only[↓reduceIte,go_sem,ah,ak,Nat.reduceAdd,Nat.reduceLT,Nat.reduceLeDiff,Nat.reduceEqDiff,Nat.reduceBEq,reduceCtorEq,eq_self,t5,t6,t7,hk,hx,hz]
   refine⟨_,_,ar.iter rfl hbk hlk hl0 hsb,Hk,by rw[e1];exact hJk,rfl,?_⟩
   simp -implicitDefEqProofs only[↓reduceIte,go_sem,Nat.reduceLT,Nat.reduceEqDiff,reduceCtorEq,eq_self,t0,t5,t6,hw,Nat.lt_add_one]
  ·rw[if_neg hz]at e1
   obtain⟨hi,hxi⟩:=DB l hk hz
   have hYk:=fun T=>hY _ hi Hk T hJk
   rw[hxi]at hYk
   generalize hv:l[k]=v at*
   simp -implicitDefEqProofs only[↓reduceIte,go_sem,ah,ak,Nat.reduceAdd,Nat.reduceLT,Nat.reduceLeDiff,Nat.reduceEqDiff,Nat.reduceBEq,reduceCtorEq,eq_self,t0,t5,t6,t7,hk,hx,hz]
   refine AY.ok (hYk [.box 25 3 0 1 [iA v.kind,iA v.i,sA v.s]]) ?_
   intro b H' hb
   cases b with
   |true=>
    rw[if_pos rfl]at hb
    obtain⟨Hk',hJk',rfl⟩:=hb
    obtain⟨hCk',hbk',hlk'⟩:=hJ _ _ hJk'
    simp -implicitDefEqProofs only[↓reduceIte,go_sem,Nat.reduceAdd,Nat.reduceLT,Nat.reduceEqDiff,Nat.reduceBEq,eq_self,t7]
    refine⟨_,_,ar.iter rfl hbk' hlk' hl0 hsb,Hk',by rw[e1,List.length_append];exact hJk',rfl,?_⟩
    simp -implicitDefEqProofs only[↓reduceIte,go_sem,Nat.reduceLT,Nat.reduceEqDiff,reduceCtorEq,eq_self,t0,t5,t6,hw,Nat.lt_add_one]
   |false=>
    rw[if_neg (by simp)]at hb
    obtain⟨Hk',c,hjx,hbk',hlk',rfl⟩:=hb
    simp -implicitDefEqProofs only[↓reduceIte,go_sem,Nat.reduceLT,Nat.reduceEqDiff,eq_self]
    exact⟨_,_,ar.iter rfl hbk' hlk' hl0 hsb,rfl,.inr ⟨Hk',c,hjx,hlk',rfl⟩⟩
 ·rintro s H' ⟨Hk,hJk,rfl,t0,t5,t6,t7⟩
  rw[List.take_length]at hJk
  simp -implicitDefEqProofs only[↓reduceIte,go_sem,Nat.reduceLT,eq_self,t6,t7]
  exact⟨_,_,ar.refl _ _,rfl,.inl ⟨Hk,by unfold qk;rw[List.length_map];exact hJk,rfl⟩⟩
theorem pf(gf:FuncId)(caps:List AV)(C:aa→Prop)(l:List ai)(H:aa)(hs:As Tryz.prog gf caps C (l.map fun v=>[v.av]))(hC:∀T,C (H++T))(hl:l.length≤1000000000):
  ag Tryz.prog 126 [.d (.v (.slice none 0 0)),.fn gf caps] H (.ok (.d (.list false (l.map ai.enc)))) H:=by
 refine ag.aj (hint:=(fun t=>t==2000000)) Tryz.func126 (by kernel_rfl) rfl [4] (by kernel_rfl) (by decide) (by simp[Tryz.ntmps126]) ?_
 rw[Tryz.ntmps126]
 simp -implicitDefEqProofs only[↓reduceIte,go_sem,Nat.reduceAdd,Nat.reduceLT,Nat.reduceEqDiff,Nat.reduceBEq]
 refine rI (fun _=>false) (fun k Hk=>Hk=H++[.box 42 1 0 1 [.sl (H.length+1) k 0 k],.arr 25 3 k ((l.take k).map ai.enc)]) (fun _ _=>False) rfl rfl (ar.kK _ _ H.length 42 1 0 1 [.d (.v (.slice none 0 0))] 0 _ 25 3 (by decide) (by simp) rfl rfl) (by simp -implicitDefEqProofs only[↓reduceIte,go_sem,Nat.reduceLT,eq_self]) hs ?_ ?_ ?_ ?_ ?_ (fun _ _ h=>h.elim)
 ·intro v hv
  obtain⟨u,_,rfl⟩:=List.mem_map.1 hv
  exact⟨rfl,fun w hw=>by rw[List.mem_singleton.1 hw];rfl⟩
 ·simp -implicitDefEqProofs only[go_sem,eq_self,List.take_zero]
 ·rintro k _ rfl
  exact⟨hC _,by simp -implicitDefEqProofs only[go_sem,Nat.reduceAdd,eq_self]⟩
 ·rintro k hk _ rfl
  rw[List.length_map]at hk
  have e1:(l.take (k+1)).map ai.enc=(l.take k).map ai.enc++[l[k].enc]:=by rw[List.take_succ_eq_append_getElem hk,List.map_append];rfl
  have hlen:((l.take k).map ai.enc).length=k:=by rw[List.length_map,List.length_take];omega
  rw[e1,List.getElem_map]
  generalize (l.take k).map ai.enc=B at*
  generalize l[k]=v at*
  simp -implicitDefEqProofs only[↓reduceIte,go_sem,ah,ak,Nat.reduceAdd,Nat.reduceLT,Nat.reduceLeDiff,Nat.reduceEqDiff,eq_self,hlen]
  refine⟨by omega,by omega,?_⟩
  refine EH.cut [.box 42 1 0 1 [.sl (H.length+1) (k+1) 0 (k+1)],.arr 25 3 (k+1) (B++[v.enc])] _ rfl rfl (by simp -implicitDefEqProofs only[go_sem,Nat.reduceAdd,eq_self]) (by simp -implicitDefEqProofs only[go_sem,Nat.reduceAdd,Nat.reduceLT,eq_self]) ?_
  rfl
 ·rintro _ rfl
  rw[List.length_map,List.take_length]
  simp -implicitDefEqProofs only[↓reduceIte,go_sem,ah,Nat.reduceAdd,Nat.reduceLT,Nat.reduceEqDiff,Nat.reduceBEq,eq_self]
  refine aw.ret ?_
  simp -implicitDefEqProofs only[↓reduceIte,go_sem,Nat.reduceLT,eq_self,List.take_of_length_le (show(l.map ai.enc).length≤l.length by simp)]
theorem s5(gf:FuncId)(caps:List AV)(C:aa→Prop)(l:List ai)(H:aa)(hs:As Tryz.prog gf caps C (l.map fun v=>[v.av]))(hC:∀T,C (H++T))(hl:l.length≤1000000000):
  ag Tryz.prog 89 [.fn gf caps] H (.ok (.d (.list false (l.map ai.enc)))) H:=by
 refine ag.aj (hint:=(fun _=>false)) Tryz.func89 (by kernel_rfl) rfl [2] (by kernel_rfl) (by decide) (by simp[Tryz.ntmps89]) ?_
 rw[Tryz.ntmps89]
 simp -implicitDefEqProofs only[↓reduceIte,go_sem,Nat.reduceLT,reduceCtorEq,eq_self]
 refine ab.ok (pf gf caps C l _ hs hC hl) ?_
 simp -implicitDefEqProofs only[↓reduceIte,go_sem,Nat.reduceLT,eq_self]
 refine aw.bq ?_
 simp -implicitDefEqProofs only[↓reduceIte,go_sem,Nat.reduceLT,eq_self]
def bR(l:List ai):List Bool:=l.map fun v=>decide (v.kind=0)
theorem uP(l:List ai)(v:ai):bR (l++[v])=bR l++[decide (v.kind=0)]:=by simp[bR]
theorem dU(l:List ai):(bR l).length=l.length:=by simp[bR]
theorem xP(l:List ai)(hl:l.length≤1000000000)(H:aa):ag Tryz.prog 28 [.d (.list false (l.map ai.enc))] H (.ok (.bf [.d (.list false (cr (bR l))),.d (.list false ((aB l).map ai.enc))])) H:=by
 refine ag.aj (hint:=(fun t=>t==2000000)) Tryz.func28 (by kernel_rfl) rfl [2,3] (by kernel_rfl) (by decide) (by simp[Tryz.ntmps28]) ?_
 rw[Tryz.ntmps28]
 simp -implicitDefEqProofs only[↓reduceIte,go_sem,Nat.reduceAdd,Nat.reduceLT,Nat.reduceBEq,reduceCtorEq,eq_self]
 refine bl (fun k s H'=>H'=H++[.arr 4 1 k (cr (bR (l.take k)))]∧s 0= .d (.list false (l.map ai.enc))∧s 4= .sl H.length k 0 k∧s 9= .d (.list false (l.map ai.enc))∧s 10=iA l.length∧s 11=iA k) l.length (by omega) (ar.eU _ _ 4 4 1 (by decide) (by simp -implicitDefEqProofs only[↓reduceIte,go_sem,Nat.reduceLT,Nat.reduceEqDiff,eq_self]) _) ?_ ?_ ?_
 ·refine⟨rfl,?_⟩
  simp -implicitDefEqProofs only[↓reduceIte,go_sem,Nat.reduceLT,Nat.reduceEqDiff,reduceCtorEq,eq_self]
 ·rintro k s H' hk hw ⟨rfl,t0,t4,t9,t10,t11⟩
  have hx:(l.map ai.enc)[k]?=some [.v (.int .i64 l[k].kind),.v (.int .i64 l[k].i),.v (.string l[k].s)]:=by rw[List.getElem?_map,List.getElem?_eq_getElem hk];rfl
  have e1:=uP (l.take k) l[k]
  rw[←List.take_succ_eq_append_getElem hk]at e1
  have hml:(bR (l.take k)).length=k:=by rw[dU,List.length_take];omega
  rw[e1]
  generalize bR (l.take k)=B at*
  generalize l[k]=v at*
  generalize hdv:decide (v.kind=0)=dv at*
  simp -implicitDefEqProofs only[↓reduceIte,go_sem,ah,ak,Nat.reduceAdd,Nat.reduceLT,Nat.reduceLeDiff,Nat.reduceEqDiff,Nat.reduceBEq,eq_self,t4,t9,t10,t11,hk,hx,hdv,de,hml,pa]
  refine⟨by omega,by omega,?_⟩
  refine eQ.cut [.arr 4 1 (k+1) (cr (B++[dv]))] _ 1 rfl rfl (by simp -implicitDefEqProofs only[go_sem,eq_self]) ?_
  refine⟨rfl,?_⟩
  simp -implicitDefEqProofs only[↓reduceIte,go_sem,Nat.reduceLT,Nat.reduceEqDiff,reduceCtorEq,eq_self,t0,t9,t10,hw]
 ·rintro s H' ⟨rfl,t0,t4,t9,t10,t11⟩
  rw[List.take_length]
  simp -implicitDefEqProofs only[↓reduceIte,go_sem,Nat.reduceAdd,Nat.reduceLT,Nat.reduceBEq,reduceCtorEq,eq_self,t0,t10,t11]
  refine ab.ok (nE l _) ?_
  simp -implicitDefEqProofs only[go_sem,Nat.reduceAdd]
  have hsq:=zC l (H.length+2) (by omega)
  have hfl:(aB l).length≤l.length:=List.length_filter_le _ _
  unfold qk at hsq
  generalize aB l=L at*
  have hBl:(cr (bR l)).length≤l.length:=by rw[de,dU];exact Nat.le_refl _
  generalize cr (bR l)=B at*
  refine rI (fun _=>false) (fun k Hk=>Hk=H++[.arr 4 1 l.length B,.box 42 1 0 1 [.sl (H.length+3) k 0 k],lB l,.arr 25 3 k ((L.take k).map ai.enc)]) (fun _ _=>False) rfl rfl (ar.kK _ _ (H.length+1) 42 1 0 1 [.d (.v (.slice none 0 0))] 0 _ 25 3 (by decide) (by simp -implicitDefEqProofs only[go_sem,eq_self]) rfl rfl) (by simp -implicitDefEqProofs only[↓reduceIte,go_sem,Nat.reduceLT,eq_self]) hsq ?_ ?_ ?_ ?_ ?_ (fun _ _ h=>h.elim)
  ·intro v hv
   obtain⟨u,_,rfl⟩:=List.mem_map.1 hv
   exact⟨rfl,fun w hw=>by rw[List.mem_singleton.1 hw];rfl⟩
  ·simp -implicitDefEqProofs only[go_sem,Nat.reduceAdd,eq_self,List.take_zero]
  ·rintro k _ rfl
   exact⟨by simp -implicitDefEqProofs only[go_sem,eq_self],by simp -implicitDefEqProofs only[go_sem,Nat.reduceAdd,eq_self]⟩
  ·rintro k hk _ rfl
   rw[List.length_map]at hk
   have e1:(L.take (k+1)).map ai.enc=(L.take k).map ai.enc++[L[k].enc]:=by rw[List.take_succ_eq_append_getElem hk,List.map_append];rfl
   have hlen:((L.take k).map ai.enc).length=k:=by rw[List.length_map,List.length_take];omega
   rw[e1,List.getElem_map]
   generalize (L.take k).map ai.enc=E at*
   generalize L[k]=v at*
   simp -implicitDefEqProofs only[↓reduceIte,go_sem,ah,ak,Nat.reduceAdd,Nat.reduceLT,Nat.reduceLeDiff,Nat.reduceEqDiff,eq_self,hlen]
   refine⟨by omega,by omega,?_⟩
   refine EH.cut [.arr 4 1 l.length B,.box 42 1 0 1 [.sl (H.length+3) (k+1) 0 (k+1)],lB l,.arr 25 3 (k+1) (E++[v.enc])] _ rfl rfl (by simp -implicitDefEqProofs only[go_sem,Nat.reduceAdd,eq_self]) (by simp -implicitDefEqProofs only[go_sem,Nat.reduceAdd,Nat.reduceLT,eq_self]) ?_
   rfl
  ·rintro _ rfl
   rw[List.length_map,List.take_length]
   simp -implicitDefEqProofs only[go_sem,Nat.reduceAdd,Nat.reduceBEq]
   refine bP K.mixed (by kernel_rfl) ?_
   simp -implicitDefEqProofs only[↓reduceIte,go_sem,ah,Nat.reduceLT,Nat.reduceEqDiff,eq_self,t4]
   refine aw.ret ?_
   simp -implicitDefEqProofs only[↓reduceIte,go_sem,Nat.reduceLT,Nat.reduceEqDiff,eq_self,List.take_of_length_le (show(L.map ai.enc).length≤L.length by simp),List.take_of_length_le hBl]
def dR:List Bool→List ai→List ai
 |[],_=>[]
 |true::ns,l=>⟨0,0,dA⟩::dR ns l
 |false::ns,v::l=>v::dR ns l
 |false::ns,[]=>[]
def gA(ns:List Bool)(l:List ai):List ai×Int:=
 if ns.length-aE ns≠l.length then([],4)else if(aB l).length≠l.length then([],4)else(dR ns l,0)
theorem count_cons(b:Bool)(l:List Bool):aE (b::l)=if b then aE l+1 else aE l:=by
 unfold aE
 rw[List.countP_cons]
 cases b<;>simp
theorem Cp(ns:List Bool)(l:List ai)(hn:ns.length≤1000000)(hl:l.length≤1000000000)(H:aa):
  ag Tryz.prog 48 [.d (.list false (cr ns)),.d (.list false (l.map ai.enc))] H (.ok (.bf [.d (.list false ((gA ns l).1.map ai.enc)),iA (gA ns l).2])) H:=by
 have hcl:=fj ns
 have hc:=fun H=>pW ns false (by omega) H
 have hw1:IntKind.i64.wrap ((ns.length:Int)-(aE ns:Int))=((ns.length-aE ns:Nat):Int):=by rw[wrap64_in _ (by omega) (by omega)];omega
 by_cases h1:ns.length-aE ns=l.length
 ·have hne:(((l.length:Nat):Int)=((ns.length-aE ns:Nat):Int))=True:=eq_true (by omega)
  have hsq:=fun id=>zC l id (by omega)
  have hfl:(aB l).length≤l.length:=List.length_filter_le _ _
  unfold qk at hsq
  have hcol:=fun(G:aa)=>s5 101 [.ptr G.length 0 0 0] (fun H=>H[G.length]?=some (lB l)) (aB l) (G++[lB l]) (hsq G.length) (fun T=>by rw[List.append_assoc];simp) (by omega)
  by_cases h2:(aB l).length=l.length
  ·have hj:gA ns l=(dR ns l,0):=by unfold gA;rw[if_neg (by simp[h1]),if_neg (by simp[h2])]
   have hne2:((((aB l).length:Nat):Int)=((l.length:Nat):Int))=True:=eq_true (by omega)
   rw[hj]
   refine ag.aj (hint:=(fun _=>false)) Tryz.func48 (by kernel_rfl) rfl [4,5] (by kernel_rfl) (by decide) (by simp[Tryz.ntmps48]) ?_
   rw[Tryz.ntmps48]
   simp -implicitDefEqProofs only[↓reduceIte,go_sem,Nat.reduceLT,Nat.reduceEqDiff,reduceCtorEq,eq_self,de]
   refine ab.ok (hc _) ?_
   simp -implicitDefEqProofs only[↓reduceIte,go_sem,Nat.reduceLT,Nat.reduceEqDiff,eq_self,hw1,hne]
   refine ab.ok (nE l _) ?_
   simp -implicitDefEqProofs only[↓reduceIte,go_sem,Nat.reduceLT,Nat.reduceEqDiff,eq_self]
   refine ab.ok (hcol _) ?_
   simp -implicitDefEqProofs only[↓reduceIte,go_sem,Nat.reduceLT,Nat.reduceEqDiff,reduceCtorEq,eq_self,List.length_map,hne2]
   refine bl (fun k s H'=>∃O R,H'=H++[lB l,.arr 25 3 k (O.map ai.enc)]∧dR ns l=O++dR (ns.drop k) R∧O.length=k∧(ns.drop k).length-aE (ns.drop k)=R.length∧s 1= .d (.list false (R.map ai.enc))∧s 6= .sl (H.length+1) k 0 k∧s 26= .d (.list false (cr ns))∧s 27=iA ns.length∧s 28=iA k) ns.length (by omega) (ar.eU _ _ 6 25 3 (by decide) (by simp -implicitDefEqProofs only[↓reduceIte,go_sem,Nat.reduceLT,Nat.reduceEqDiff,eq_self]) _) ?_ ?_ ?_
   ·refine⟨[],l,by simp -implicitDefEqProofs only[go_sem,eq_self],rfl,rfl,h1,?_⟩
    simp -implicitDefEqProofs only[↓reduceIte,go_sem,Nat.reduceLT,Nat.reduceEqDiff,eq_self,de]
   ·rintro k s H' hk hw ⟨O,R,rfl,hJ,hO,hR,t1,t6,t26,t27,t28⟩
    have hx:=nH ns k hk
    have hd:ns.drop k=ns[k]::ns.drop (k+1):=List.drop_eq_getElem_cons hk
    rw[hd]at hJ hR
    rw[count_cons]at hR
    have hce:=fj (ns.drop (k+1))
    generalize ns.drop (k+1)=D at*
    generalize ns[k]=b at*
    have hOl:(O.map ai.enc).length=k:=by rw[List.length_map];exact hO
    cases b with
    |true=>
     simp -implicitDefEqProofs only[↓reduceIte,go_sem,Nat.reduceAdd,Nat.reduceLT,Nat.reduceLeDiff,Nat.reduceEqDiff,eq_self,t6,t26,t27,t28,hk,hx,hOl]
     refine⟨by omega,by omega,?_⟩
     refine eQ.cut [lB l,.arr 25 3 (k+1) ((O++[(⟨0,0,dA⟩:ai)]).map ai.enc)] _ 2 rfl (by simp[ai.enc,dA];rfl) (by simp -implicitDefEqProofs only[go_sem,eq_self]) ⟨O++[⟨0,0,dA⟩],R,rfl,by rw[hJ];simp[dR],by simp[hO],by simp at hR;omega,?_⟩
     simp -implicitDefEqProofs only[↓reduceIte,go_sem,Nat.reduceLT,Nat.reduceEqDiff,eq_self,t1,t26,t27,hw]
    |false=>
     cases R with
     |nil=>simp at hR;omega
     |cons v R=>
      simp -implicitDefEqProofs only[↓reduceIte,go_sem,Nat.reduceAdd,Nat.reduceLT,Nat.reduceLeDiff,Nat.reduceEqDiff,Int.reduceLE,Int.reduceToNat,eq_self,t1,t6,t26,t27,t28,hk,hx,hOl,ai.enc]
      refine⟨by omega,by omega,?_,by omega,by omega,?_⟩
      ·rintro c (rfl|hc)
       ·rfl
       ·obtain⟨u,_,rfl⟩:=List.mem_map.1 hc
        rfl
      refine eQ.cut [lB l,.arr 25 3 (k+1) ((O++[v]).map ai.enc)] _ 2 rfl (by simp[ai.enc];rfl) (by simp -implicitDefEqProofs only[go_sem,eq_self]) ⟨O++[v],R,rfl,by rw[hJ];simp[dR],by simp[hO],by simp at hR;omega,?_⟩
      simp -implicitDefEqProofs only[↓reduceIte,go_sem,Nat.reduceLT,Nat.reduceEqDiff,eq_self,t26,t27,hw,show((R.length:Int)+1).toNat=R.length+1 by omega,List.take_succ_cons,List.take_of_length_le (show(R.map ai.enc).length≤R.length by simp),List.drop_succ_cons,List.drop_zero]
   ·rintro s H' ⟨O,R,rfl,hJ,hO,hR,t1,t6,t26,t27,t28⟩
    rw[List.drop_length]at hJ hR
    have hjo:dR ns l=O:=by rw[hJ];simp[dR]
    simp -implicitDefEqProofs only[↓reduceIte,go_sem,Nat.reduceLT,Nat.reduceEqDiff,eq_self,t6,t27,t28]
    refine aw.ret ?_
    simp -implicitDefEqProofs only[↓reduceIte,go_sem,Nat.reduceLT,Nat.reduceEqDiff,eq_self,hjo,List.take_of_length_le (show(O.map ai.enc).length≤ns.length by rw[List.length_map];omega)]
  ·have hj:gA ns l=([],4):=by unfold gA;rw[if_neg (by simp[h1]),if_pos h2]
   have hne2:((((aB l).length:Nat):Int)=((l.length:Nat):Int))=False:=eq_false (by omega)
   rw[hj]
   refine ag.bY (cs:=[.d (.v (.slice none 0 0)),iA 4]) ?_ (.cons .nil (.cons (.refl _) .nil))
   refine ag.aj (hint:=(fun _=>false)) Tryz.func48 (by kernel_rfl) rfl [4,5] (by kernel_rfl) (by decide) (by simp[Tryz.ntmps48]) ?_
   rw[Tryz.ntmps48]
   simp -implicitDefEqProofs only[↓reduceIte,go_sem,Nat.reduceLT,Nat.reduceEqDiff,reduceCtorEq,eq_self,de]
   refine ab.ok (hc _) ?_
   simp -implicitDefEqProofs only[↓reduceIte,go_sem,Nat.reduceLT,Nat.reduceEqDiff,eq_self,hw1,hne]
   refine ab.ok (nE l _) ?_
   simp -implicitDefEqProofs only[↓reduceIte,go_sem,Nat.reduceLT,Nat.reduceEqDiff,eq_self]
   refine ab.ok (hcol _) ?_
   simp -implicitDefEqProofs only[↓reduceIte,go_sem,Nat.reduceLT,Nat.reduceEqDiff,reduceCtorEq,eq_self,List.length_map,hne2]
   refine aw.ret ?_
   simp -implicitDefEqProofs only[↓reduceIte,go_sem,Nat.reduceLT,Nat.reduceEqDiff,eq_self]
 ·have hj:gA ns l=([],4):=by unfold gA;rw[if_pos h1]
  have hne:(((l.length:Nat):Int)=((ns.length-aE ns:Nat):Int))=False:=eq_false (by omega)
  rw[hj]
  refine ag.bY (cs:=[.d (.v (.slice none 0 0)),iA 4]) ?_ (.cons .nil (.cons (.refl _) .nil))
  refine ag.aj (hint:=(fun _=>false)) Tryz.func48 (by kernel_rfl) rfl [4,5] (by kernel_rfl) (by decide) (by simp[Tryz.ntmps48]) ?_
  rw[Tryz.ntmps48]
  simp -implicitDefEqProofs only[↓reduceIte,go_sem,Nat.reduceLT,Nat.reduceEqDiff,reduceCtorEq,eq_self,de]
  refine ab.ok (hc _) ?_
  simp -implicitDefEqProofs only[↓reduceIte,go_sem,Nat.reduceLT,Nat.reduceEqDiff,eq_self,hw1,hne]
  refine aw.bq ?_
  simp -implicitDefEqProofs only[↓reduceIte,go_sem,Nat.reduceLT,Nat.reduceEqDiff,eq_self]
structure Sg where
 kind:Int
 aX:Int
 aM:Zn
 az:List Bool
 body:List Nat
deriving DecidableEq
def Sg.cs(s:Sg):List AV:=[iA s.kind,iA s.aX,iA s.aM.rows,iA s.aM.az,iA s.aM.mn.kind,iA s.aM.mn.i,sA s.aM.mn.s,iA s.aM.mx.kind,iA s.aM.mx.i,sA s.aM.mx.s,.d (.list false (cr s.az)),.d (.list false (aG s.body))]
def KR:Zn:=⟨0,0,⟨0,0,dA⟩,⟨0,0,dA⟩⟩
def Al:Sg:=⟨0,0,KR,[],[]⟩
def fK:List AV:=[iA 0,iA 0,iA 0,iA 0,iA 0,iA 0,sA dA,iA 0,iA 0,sA dA,.d (.v (.slice none 0 0)),.d (.v (.slice none 0 0))]
theorem fF:Sub (.agg fK) (.agg Al.cs):=
 .agg (.cons (.refl _) (.cons (.refl _) (.cons (.refl _) (.cons (.refl _) (.cons (.refl _) (.cons (.refl _) (.cons (.refl _) (.cons (.refl _) (.cons (.refl _) (.cons (.refl _) (.cons .nil (.cons .nil .nil))))))))))))
def bD(l:List ai)(k w:Int):Int:=if w=0 then px (aB l) k else w
def b5(l:List ai):List Bool:=if(aB l).length=l.length then[]else bR l
def dL(l:List ai)(k w:Int):Sg×Int:=
 if aL (aB l) k≠0 then(Al,aL (aB l) k)
 else if 4096<l.length then(Al,2)
 else if(bV (aB l) k (bD l k w)).2≠0 then(Al,(bV (aB l) k (bD l k w)).2)
 else(⟨k,bD l k w,aZ l,b5 l,(bV (aB l) k (bD l k w)).1⟩,0)
theorem na(l:List ai)(k w:Int)(hok:∀v∈l,dF v.i)(hl:l.length≤1000000000)(H:aa):
  ag Tryz.prog 14 [.d (.list false (l.map ai.enc)),iA k,iA w] H (.ok (.bf [.agg (dL l k w).1.cs,iA (dL l k w).2])) H:=by
 have hs:=fun H=>xP l hl H
 have hfl:(aB l).length≤l.length:=List.length_filter_le _ _
 have hok2:∀v∈aB l,dF v.i:=fun v hv=>hok v ((List.mem_filter.1 hv).1)
 have hc:=fun H=>dW (aB l) k false H (by omega)
 have hbe:=fun H=>Ao (aB l) k hok2 (by omega) H
 have hbo:=fun H=>rY (aB l) k (bD l k w) hok2 (by omega) H
 have hzo:=fun H=>AU l false hl H
 unfold dL b5
 have hw0:w=0→bD l k w=px (aB l) k:=fun h=>if_pos h
 have hw1:w≠0→bD l k w=w:=fun h=>if_neg h
 generalize bD l k w=w' at*
 generalize px (aB l) k=be at*
 generalize bV (aB l) k w'=bo at*
 obtain⟨bb,e⟩:=bo
 simp only at hbo⊢
 generalize aZ l=z at*
 generalize aL (aB l) k=pe at*
 have hol:((bR l).length=l.length):=dU l
 generalize bR l=ns at*
 generalize aB l=L at*
 by_cases hpe:pe≠0
 ·rw[if_pos hpe]
  refine ag.bY (cs:=[.agg fK,iA pe]) ?_ (.cons fF (.cons (.refl _) .nil))
  refine ag.bL (hint:=fun _=>false) Tryz.func14 (by kernel_rfl) rfl [.cell 6 30,.tmp 7] (by kernel_rfl) (by simp[Tryz.ntmps14]) ?_
  rw[Tryz.ntmps14]
  simp -implicitDefEqProofs only[↓reduceIte,go_sem,Nat.reduceLT,reduceCtorEq,eq_self]
  refine ab.ok (hs _) ?_
  simp -implicitDefEqProofs only[↓reduceIte,go_sem,Nat.reduceLT,Nat.reduceEqDiff,eq_self]
  refine ab.ok (hc _) ?_
  simp -implicitDefEqProofs only[↓reduceIte,go_sem,ak,Nat.reduceAdd,Nat.reduceLT,Nat.reduceEqDiff,eq_self,hpe]
  refine bp.ret ?_
  simp -implicitDefEqProofs only[↓reduceIte,go_sem,ah,Nat.reduceAdd,Nat.reduceLT,Nat.reduceLeDiff,Nat.reduceEqDiff,eq_self,aK,bH,fK,dA]
 rw[if_neg hpe]
 obtain rfl:pe=0:=by simpa using hpe
 by_cases h4:4096<l.length
 ·rw[if_pos h4]
  refine ag.bY (cs:=[.agg fK,iA 2]) ?_ (.cons fF (.cons (.refl _) .nil))
  refine ag.bL (hint:=fun _=>false) Tryz.func14 (by kernel_rfl) rfl [.cell 6 30,.tmp 7] (by kernel_rfl) (by simp[Tryz.ntmps14]) ?_
  rw[Tryz.ntmps14]
  simp -implicitDefEqProofs only[↓reduceIte,go_sem,Nat.reduceLT,reduceCtorEq,eq_self]
  refine ab.ok (hs _) ?_
  simp -implicitDefEqProofs only[↓reduceIte,go_sem,Nat.reduceLT,Nat.reduceEqDiff,eq_self]
  refine ab.ok (hc _) ?_
  simp -implicitDefEqProofs only[↓reduceIte,go_sem,ak,Nat.reduceAdd,Nat.reduceLT,Nat.reduceEqDiff,reduceCtorEq,eq_self,List.length_map,show((4096:Int)<(l.length:Int))=True from eq_true (by omega)]
  refine bp.ret ?_
  simp -implicitDefEqProofs only[↓reduceIte,go_sem,ah,Nat.reduceAdd,Nat.reduceLT,Nat.reduceLeDiff,Nat.reduceEqDiff,eq_self,aK,bH,fK,dA]
 rw[if_neg h4]
 have h4f:((4096:Int)<(l.length:Int))=False:=eq_false (by omega)
 by_cases he:e≠0
 ·rw[if_pos he]
  refine ag.bY (cs:=[.agg fK,iA e]) ?_ (.cons fF (.cons (.refl _) .nil))
  by_cases hw:w=0
  ·obtain rfl:=hw0 hw
   refine ag.bL (hint:=fun _=>false) Tryz.func14 (by kernel_rfl) rfl [.cell 6 30,.tmp 7] (by kernel_rfl) (by simp[Tryz.ntmps14]) ?_
   rw[Tryz.ntmps14]
   simp -implicitDefEqProofs only[↓reduceIte,go_sem,Nat.reduceLT,reduceCtorEq,eq_self]
   refine ab.ok (hs _) ?_
   simp -implicitDefEqProofs only[↓reduceIte,go_sem,Nat.reduceLT,Nat.reduceEqDiff,eq_self]
   refine ab.ok (hc _) ?_
   simp -implicitDefEqProofs only[↓reduceIte,go_sem,Nat.reduceLT,Nat.reduceEqDiff,reduceCtorEq,eq_self,List.length_map,h4f,hw]
   refine ab.ok (hbe _) ?_
   simp -implicitDefEqProofs only[↓reduceIte,go_sem,Nat.reduceLT,Nat.reduceEqDiff,eq_self]
   refine ab.ok (hbo _) ?_
   simp -implicitDefEqProofs only[↓reduceIte,go_sem,ak,Nat.reduceAdd,Nat.reduceLT,Nat.reduceEqDiff,eq_self,he]
   refine bp.ret ?_
   simp -implicitDefEqProofs only[↓reduceIte,go_sem,ah,Nat.reduceAdd,Nat.reduceLT,Nat.reduceLeDiff,Nat.reduceEqDiff,eq_self,aK,bH,fK,dA]
  ·obtain rfl:=hw1 hw
   refine ag.bL (hint:=fun _=>false) Tryz.func14 (by kernel_rfl) rfl [.cell 6 30,.tmp 7] (by kernel_rfl) (by simp[Tryz.ntmps14]) ?_
   rw[Tryz.ntmps14]
   simp -implicitDefEqProofs only[↓reduceIte,go_sem,Nat.reduceLT,reduceCtorEq,eq_self]
   refine ab.ok (hs _) ?_
   simp -implicitDefEqProofs only[↓reduceIte,go_sem,Nat.reduceLT,Nat.reduceEqDiff,eq_self]
   refine ab.ok (hc _) ?_
   simp -implicitDefEqProofs only[↓reduceIte,go_sem,Nat.reduceLT,Nat.reduceEqDiff,reduceCtorEq,eq_self,List.length_map,h4f,hw]
   refine ab.ok (hbo _) ?_
   simp -implicitDefEqProofs only[↓reduceIte,go_sem,ak,Nat.reduceAdd,Nat.reduceLT,Nat.reduceEqDiff,eq_self,he]
   refine bp.ret ?_
   simp -implicitDefEqProofs only[↓reduceIte,go_sem,ah,Nat.reduceAdd,Nat.reduceLT,Nat.reduceLeDiff,Nat.reduceEqDiff,eq_self,aK,bH,fK,dA]
 rw[if_neg he]
 obtain rfl:e=0:=by simpa using he
 by_cases hn:L.length=l.length
 ·have hnt:((L.length:Int)=(l.length:Int))=True:=eq_true (by omega)
  rw[if_pos hn]
  refine ag.bY (cs:=[.agg [iA k,iA w',iA z.rows,iA z.az,iA z.mn.kind,iA z.mn.i,sA z.mn.s,iA z.mx.kind,iA z.mx.i,sA z.mx.s,.d (.v (.slice none 0 0)),.d (.list false (aG bb))],iA 0]) ?_
   (.cons (.agg (.cons (.refl _) (.cons (.refl _) (.cons (.refl _) (.cons (.refl _) (.cons (.refl _) (.cons (.refl _) (.cons (.refl _) (.cons (.refl _) (.cons (.refl _) (.cons (.refl _) (.cons .nil (.cons (.refl _) .nil))))))))))))) (.cons (.refl _) .nil))
  by_cases hw:w=0
  ·obtain rfl:=hw0 hw
   refine ag.bL (hint:=fun _=>false) Tryz.func14 (by kernel_rfl) rfl [.cell 6 30,.tmp 7] (by kernel_rfl) (by simp[Tryz.ntmps14]) ?_
   rw[Tryz.ntmps14]
   simp -implicitDefEqProofs only[↓reduceIte,go_sem,Nat.reduceLT,reduceCtorEq,eq_self]
   refine ab.ok (hs _) ?_
   simp -implicitDefEqProofs only[↓reduceIte,go_sem,Nat.reduceLT,Nat.reduceEqDiff,eq_self]
   refine ab.ok (hc _) ?_
   simp -implicitDefEqProofs only[↓reduceIte,go_sem,Nat.reduceLT,Nat.reduceEqDiff,reduceCtorEq,eq_self,List.length_map,h4f,hw]
   refine ab.ok (hbe _) ?_
   simp -implicitDefEqProofs only[↓reduceIte,go_sem,Nat.reduceLT,Nat.reduceEqDiff,eq_self]
   refine ab.ok (hbo _) ?_
   simp -implicitDefEqProofs only[↓reduceIte,go_sem,Nat.reduceLT,Nat.reduceEqDiff,reduceCtorEq,eq_self,List.length_map,hnt]
   refine ab.ok (hzo _) ?_
   simp -implicitDefEqProofs only[↓reduceIte,go_sem,ak,Nat.reduceAdd,Nat.reduceLT,Nat.reduceLeDiff,Nat.reduceEqDiff,eq_self,Zn.cs]
   refine bp.ret ?_
   simp -implicitDefEqProofs only[↓reduceIte,go_sem,ah,Nat.reduceAdd,Nat.reduceLT,Nat.reduceLeDiff,Nat.reduceEqDiff,eq_self,aK,bH]
  ·obtain rfl:=hw1 hw
   refine ag.bL (hint:=fun _=>false) Tryz.func14 (by kernel_rfl) rfl [.cell 6 30,.tmp 7] (by kernel_rfl) (by simp[Tryz.ntmps14]) ?_
   rw[Tryz.ntmps14]
   simp -implicitDefEqProofs only[↓reduceIte,go_sem,Nat.reduceLT,reduceCtorEq,eq_self]
   refine ab.ok (hs _) ?_
   simp -implicitDefEqProofs only[↓reduceIte,go_sem,Nat.reduceLT,Nat.reduceEqDiff,eq_self]
   refine ab.ok (hc _) ?_
   simp -implicitDefEqProofs only[↓reduceIte,go_sem,Nat.reduceLT,Nat.reduceEqDiff,reduceCtorEq,eq_self,List.length_map,h4f,hw]
   refine ab.ok (hbo _) ?_
   simp -implicitDefEqProofs only[↓reduceIte,go_sem,Nat.reduceLT,Nat.reduceEqDiff,reduceCtorEq,eq_self,List.length_map,hnt]
   refine ab.ok (hzo _) ?_
   simp -implicitDefEqProofs only[↓reduceIte,go_sem,ak,Nat.reduceAdd,Nat.reduceLT,Nat.reduceLeDiff,Nat.reduceEqDiff,eq_self,Zn.cs]
   refine bp.ret ?_
   simp -implicitDefEqProofs only[↓reduceIte,go_sem,ah,Nat.reduceAdd,Nat.reduceLT,Nat.reduceLeDiff,Nat.reduceEqDiff,eq_self,aK,bH]
 ·have hnt:((L.length:Int)=(l.length:Int))=False:=eq_false (by omega)
  rw[if_neg hn]
  by_cases hw:w=0
  ·obtain rfl:=hw0 hw
   refine ag.bL (hint:=fun _=>false) Tryz.func14 (by kernel_rfl) rfl [.cell 6 30,.tmp 7] (by kernel_rfl) (by simp[Tryz.ntmps14]) ?_
   rw[Tryz.ntmps14]
   simp -implicitDefEqProofs only[↓reduceIte,go_sem,Nat.reduceLT,reduceCtorEq,eq_self]
   refine ab.ok (hs _) ?_
   simp -implicitDefEqProofs only[↓reduceIte,go_sem,Nat.reduceLT,Nat.reduceEqDiff,eq_self]
   refine ab.ok (hc _) ?_
   simp -implicitDefEqProofs only[↓reduceIte,go_sem,Nat.reduceLT,Nat.reduceEqDiff,reduceCtorEq,eq_self,List.length_map,h4f,hw]
   refine ab.ok (hbe _) ?_
   simp -implicitDefEqProofs only[↓reduceIte,go_sem,Nat.reduceLT,Nat.reduceEqDiff,eq_self]
   refine ab.ok (hbo _) ?_
   simp -implicitDefEqProofs only[↓reduceIte,go_sem,Nat.reduceLT,Nat.reduceEqDiff,reduceCtorEq,eq_self,List.length_map,hnt]
   refine ab.ok (hzo _) ?_
   simp -implicitDefEqProofs only[↓reduceIte,go_sem,ak,Nat.reduceAdd,Nat.reduceLT,Nat.reduceLeDiff,Nat.reduceEqDiff,eq_self,Zn.cs]
   refine bp.ret ?_
   simp -implicitDefEqProofs only[↓reduceIte,go_sem,ah,Nat.reduceAdd,Nat.reduceLT,Nat.reduceLeDiff,Nat.reduceEqDiff,eq_self,aK,bH,Sg.cs]
  ·obtain rfl:=hw1 hw
   refine ag.bL (hint:=fun _=>false) Tryz.func14 (by kernel_rfl) rfl [.cell 6 30,.tmp 7] (by kernel_rfl) (by simp[Tryz.ntmps14]) ?_
   rw[Tryz.ntmps14]
   simp -implicitDefEqProofs only[↓reduceIte,go_sem,Nat.reduceLT,reduceCtorEq,eq_self]
   refine ab.ok (hs _) ?_
   simp -implicitDefEqProofs only[↓reduceIte,go_sem,Nat.reduceLT,Nat.reduceEqDiff,eq_self]
   refine ab.ok (hc _) ?_
   simp -implicitDefEqProofs only[↓reduceIte,go_sem,Nat.reduceLT,Nat.reduceEqDiff,reduceCtorEq,eq_self,List.length_map,h4f,hw]
   refine ab.ok (hbo _) ?_
   simp -implicitDefEqProofs only[↓reduceIte,go_sem,Nat.reduceLT,Nat.reduceEqDiff,reduceCtorEq,eq_self,List.length_map,hnt]
   refine ab.ok (hzo _) ?_
   simp -implicitDefEqProofs only[↓reduceIte,go_sem,ak,Nat.reduceAdd,Nat.reduceLT,Nat.reduceLeDiff,Nat.reduceEqDiff,eq_self,Zn.cs]
   refine bp.ret ?_
   simp -implicitDefEqProofs only[↓reduceIte,go_sem,ah,Nat.reduceAdd,Nat.reduceLT,Nat.reduceLeDiff,Nat.reduceEqDiff,eq_self,aK,bH,Sg.cs]
def dC(b:List Nat)(most:Nat)(k:Int):(Nat×ai)×List Nat×Int:=
 if(aJ b).2.2≠0 then(zR,[],(aJ b).2.2)
 else if(aJ b).1=0∨most<(aJ b).1 then(zR,[],4)
 else if(dz (b.drop (aJ b).2.1) k).2.2≠0 then(zR,[],(dz (b.drop (aJ b).2.1) k).2.2)
 else(((aJ b).1,(dz (b.drop (aJ b).2.1) k).1),(dz (b.drop (aJ b).2.1) k).2.1,0)
theorem xU(b:List Nat)(most:Nat)(k:Int)(hm:most≤4096)(hl:b.length≤140737488351232)(hb:∀c∈b,c<256)(H:aa):
  ag Tryz.prog 149 [.d (.list false (aG b)),iA most,iA k] H (.ok (.bf [iZ (dC b most k).1,.d (.list false (aG (dC b most k).2.1)),iA (dC b most k).2.2])) H:=by
 have hN:dC b most k=if(aJ b).2.2≠0 then(zR,[],(aJ b).2.2)else if(aJ b).1=0∨most<(aJ b).1 then(zR,[],4)else if(dz (b.drop (aJ b).2.1) k).2.2≠0 then(zR,[],(dz (b.drop (aJ b).2.1) k).2.2)else(((aJ b).1,(dz (b.drop (aJ b).2.1) k).1),(dz (b.drop (aJ b).2.1) k).2.1,0):=rfl
 have hgd:=fun H=>iW b false (by omega) hb H
 have hgl:=jw b
 have hglt:=jE b
 have wm:=aU most (by omega)
 rw[hN]
 clear hN
 generalize aJ b=g at*
 obtain⟨n,j,e⟩:=g
 simp only at hgd hgl hglt⊢
 by_cases he:e=0
 ·subst he
  rw[if_neg (by simp)]
  by_cases h1:n=0∨most<n
  ·rw[if_pos h1]
   refine ag.bY (cs:=[iZ zR,.d (.v (.slice none 0 0)),iA 4]) ?_ (.cons (.refl _) (.cons .nil (.cons (.refl _) .nil)))
   refine ag.bL (hint:=fun _=>false) Tryz.func149 (by kernel_rfl) rfl [.cell 6 165,.tmp 7,.tmp 8] (by kernel_rfl) (by simp[Tryz.ntmps149]) ?_
   rw[Tryz.ntmps149]
   simp -implicitDefEqProofs only[↓reduceIte,go_sem,Nat.reduceLT,reduceCtorEq,eq_self]
   refine ab.ok (hgd _) ?_
   by_cases h0:n=0
   ·subst h0
    simp -implicitDefEqProofs only[↓reduceIte,go_sem,ak,Nat.reduceAdd,Nat.reduceLT,Nat.reduceEqDiff,eq_self]
    refine bp.ret ?_
    simp -implicitDefEqProofs only[↓reduceIte,go_sem,ah,Nat.reduceAdd,Nat.reduceLT,Nat.reduceLeDiff,Nat.reduceEqDiff,eq_self,aK,bH,iZ,zR,zV,dA]
   ·have h2:most<n:=by omega
    simp -implicitDefEqProofs only[↓reduceIte,go_sem,ak,Nat.reduceAdd,Nat.reduceLT,Nat.reduceEqDiff,reduceCtorEq,eq_self,wm,show((n:Int)=0)=False from eq_false (by omega),show((most:Int)<(n:Int))=True from eq_true (by omega)]
    refine bp.ret ?_
    simp -implicitDefEqProofs only[↓reduceIte,go_sem,ah,Nat.reduceAdd,Nat.reduceLT,Nat.reduceLeDiff,Nat.reduceEqDiff,eq_self,aK,bH,iZ,zR,zV,dA]
  rw[if_neg h1]
  have c1:((n:Int)=0)=False:=eq_false (by omega)
  have c2:((most:Int)<(n:Int))=False:=eq_false (by omega)
  have hj0:((0:Int)≤(j:Int))=True:=eq_true (by omega)
  have hbt:(aG b).take b.length=aG b:=List.take_of_length_le (by rw[al];exact Nat.le_refl _)
  have hod:=fun H=>eE (b.drop j) k (by rw[List.length_drop];omega) (fun c hc=>hb c (List.mem_of_mem_drop hc)) H
  have wn:IntKind.i64.wrap (n:Int)=(n:Int):=wrap64_in _ (by omega) (by omega)
  obtain⟨p,hp⟩:=dP (b.drop j) k
  have hlr:(dz (b.drop j) k).2.1.length≤b.length:=by rw[hp,List.length_drop,List.length_drop];omega
  generalize dz (b.drop j) k=o at*
  obtain⟨v,r,f⟩:=o
  simp only at hod hlr⊢
  by_cases hf:f=0
  ·subst hf
   rw[if_neg (by simp)]
   refine ag.bL (hint:=fun _=>false) Tryz.func149 (by kernel_rfl) rfl [.cell 6 165,.tmp 7,.tmp 8] (by kernel_rfl) (by simp[Tryz.ntmps149]) ?_
   rw[Tryz.ntmps149]
   simp -implicitDefEqProofs only[↓reduceIte,go_sem,Nat.reduceLT,reduceCtorEq,eq_self]
   refine ab.ok (hgd _) ?_
   simp -implicitDefEqProofs only[↓reduceIte,go_sem,Nat.reduceLT,Nat.reduceEqDiff,reduceCtorEq,eq_self,c1,c2,wm,aS,al,hj0,hbt,dV]
   refine⟨by omega,ab.ok (hod _) ?_⟩
   simp -implicitDefEqProofs only[↓reduceIte,go_sem,ah,ak,Nat.reduceAdd,Nat.reduceLT,Nat.reduceLeDiff,Nat.reduceEqDiff,eq_self,wn]
   refine bp.ret ?_
   simp -implicitDefEqProofs only[↓reduceIte,go_sem,ah,Nat.reduceAdd,Nat.reduceLT,Nat.reduceLeDiff,Nat.reduceEqDiff,eq_self,aK,bH,iZ]
  ·rw[if_pos hf]
   refine ag.bY (cs:=[iZ zR,.d (.v (.slice none 0 0)),iA f]) ?_ (.cons (.refl _) (.cons .nil (.cons (.refl _) .nil)))
   refine ag.bL (hint:=fun _=>false) Tryz.func149 (by kernel_rfl) rfl [.cell 6 165,.tmp 7,.tmp 8] (by kernel_rfl) (by simp[Tryz.ntmps149]) ?_
   rw[Tryz.ntmps149]
   simp -implicitDefEqProofs only[↓reduceIte,go_sem,Nat.reduceLT,reduceCtorEq,eq_self]
   refine ab.ok (hgd _) ?_
   simp -implicitDefEqProofs only[↓reduceIte,go_sem,Nat.reduceLT,Nat.reduceEqDiff,reduceCtorEq,eq_self,c1,c2,wm,aS,al,hj0,hbt,dV]
   refine⟨by omega,ab.ok (hod _) ?_⟩
   simp -implicitDefEqProofs only[↓reduceIte,go_sem,ak,Nat.reduceAdd,Nat.reduceLT,Nat.reduceEqDiff,eq_self,hf]
   refine bp.ret ?_
   simp -implicitDefEqProofs only[↓reduceIte,go_sem,ah,Nat.reduceAdd,Nat.reduceLT,Nat.reduceLeDiff,Nat.reduceEqDiff,eq_self,aK,bH,iZ,zR,zV,dA]
 ·rw[if_pos he]
  refine ag.bY (cs:=[iZ zR,.d (.v (.slice none 0 0)),iA e]) ?_ (.cons (.refl _) (.cons .nil (.cons (.refl _) .nil)))
  refine ag.bL (hint:=fun _=>false) Tryz.func149 (by kernel_rfl) rfl [.cell 6 165,.tmp 7,.tmp 8] (by kernel_rfl) (by simp[Tryz.ntmps149]) ?_
  rw[Tryz.ntmps149]
  simp -implicitDefEqProofs only[↓reduceIte,go_sem,Nat.reduceLT,reduceCtorEq,eq_self]
  refine ab.ok (hgd _) ?_
  simp -implicitDefEqProofs only[↓reduceIte,go_sem,ak,Nat.reduceAdd,Nat.reduceLT,Nat.reduceEqDiff,eq_self,he]
  refine bp.ret ?_
  simp -implicitDefEqProofs only[↓reduceIte,go_sem,ah,Nat.reduceAdd,Nat.reduceLT,Nat.reduceLeDiff,Nat.reduceEqDiff,eq_self,aK,bH,iZ,zR,zV,dA]
def ti(k:Int):Nat→List (Nat×ai)→Nat→List Nat→List (Nat×ai)×List Nat×Int
 |0,R,_,b=>(R,b,0)
 |f+1,R,n,b=>if n=0 then(R,b,0)else if(dC b n k).2.2≠0 then([],[],(dC b n k).2.2)else if R≠[]∧(cE R).2=(dC b n k).1.2 then([],[],4)else ti k f (R++[(dC b n k).1]) (n-(dC b n k).1.1) (dC b n k).2.1
def dK(b:List Nat)(n k:Int):List (Nat×ai)×Int:=
 if bI k=false then([],1)
 else if n<0 then([],2)
 else if 4096<n then([],2)
 else if(ti k n.toNat [] n.toNat b).2.2≠0 then([],(ti k n.toNat [] n.toNat b).2.2)
 else if(ti k n.toNat [] n.toNat b).2.1≠[]then([],4)
 else((ti k n.toNat [] n.toNat b).1,0)
theorem qi{b r:List Nat}{n:Nat}{k:Int}{q:Nat×ai}(h:dC b n k=(q,r,0)):1≤q.1∧q.1≤n∧∃j,r=b.drop j:=by
 unfold dC at h
 split at h
 ·rename_i he
  simp only[Prod.mk.injEq]at h
  exact absurd h.2.2 he
 split at h
 ·simp at h
 split at h
 ·rename_i he
  simp only[Prod.mk.injEq]at h
  exact absurd h.2.2 he
 ·rename_i h1 h2 h3
  simp only[Prod.mk.injEq,and_true]at h
  obtain⟨rfl,rfl⟩:=h
  obtain⟨j,hj⟩:=dP (b.drop (aJ b).2.1) k
  refine⟨by simp only;omega,by simp only;omega,(aJ b).2.1+j,by rw[hj,List.drop_drop]⟩
theorem vw(b:List Nat)(n k:Int)(hl:b.length≤140737488351232)(hb:∀c∈b,c<256)(H:aa):
  ag Tryz.prog 117 [.d (.list false (aG b)),iA n,iA k] H (.ok (.bf [.d (.list false ((dK b n k).1.map eP)),iA (dK b n k).2])) H:=by
 by_cases hk:bI k=false
 ·rw[show dK b n k=([],1)from if_pos hk]
  refine ag.bY (cs:=[.d (.v (.slice none 0 0)),iA 1]) ?_ (.cons .nil (.cons (.refl _) .nil))
  refine ag.aj (hint:=(fun _=>false)) Tryz.func117 (by kernel_rfl) rfl [6,7] (by kernel_rfl) (by decide) (by simp[Tryz.ntmps117]) ?_
  rw[Tryz.ntmps117]
  simp -implicitDefEqProofs only[↓reduceIte,go_sem,Nat.reduceLT,Nat.reduceEqDiff,eq_self]
  refine ab.ok (bC k _) ?_
  simp -implicitDefEqProofs only[↓reduceIte,go_sem,Nat.reduceLT,Nat.reduceEqDiff,Int.reduceEq,eq_self,hk,Bool.false_eq_true]
  refine aw.bq ?_
  simp -implicitDefEqProofs only[↓reduceIte,go_sem,Nat.reduceLT,Nat.reduceEqDiff,eq_self]
 rw[show dK b n k=_ from if_neg hk]
 have hk1:bI k=true:=by simpa using hk
 by_cases h1:n<0
 ·rw[if_pos h1]
  refine ag.bY (cs:=[.d (.v (.slice none 0 0)),iA 2]) ?_ (.cons .nil (.cons (.refl _) .nil))
  refine ag.aj (hint:=(fun _=>false)) Tryz.func117 (by kernel_rfl) rfl [6,7] (by kernel_rfl) (by decide) (by simp[Tryz.ntmps117]) ?_
  rw[Tryz.ntmps117]
  simp -implicitDefEqProofs only[↓reduceIte,go_sem,Nat.reduceLT,Nat.reduceEqDiff,eq_self]
  refine ab.ok (bC k _) ?_
  simp -implicitDefEqProofs only[↓reduceIte,go_sem,Nat.reduceLT,Nat.reduceEqDiff,eq_self,hk1,h1]
  refine aw.bq ?_
  simp -implicitDefEqProofs only[↓reduceIte,go_sem,Nat.reduceLT,Nat.reduceEqDiff,eq_self]
 rw[if_neg h1]
 by_cases h2:4096<n
 ·rw[if_pos h2]
  refine ag.bY (cs:=[.d (.v (.slice none 0 0)),iA 2]) ?_ (.cons .nil (.cons (.refl _) .nil))
  refine ag.aj (hint:=(fun _=>false)) Tryz.func117 (by kernel_rfl) rfl [6,7] (by kernel_rfl) (by decide) (by simp[Tryz.ntmps117]) ?_
  rw[Tryz.ntmps117]
  simp -implicitDefEqProofs only[↓reduceIte,go_sem,Nat.reduceLT,Nat.reduceEqDiff,eq_self]
  refine ab.ok (bC k _) ?_
  simp -implicitDefEqProofs only[↓reduceIte,go_sem,Nat.reduceLT,Nat.reduceEqDiff,reduceCtorEq,eq_self,hk1,h1,h2]
  refine aw.bq ?_
  simp -implicitDefEqProofs only[↓reduceIte,go_sem,Nat.reduceLT,Nat.reduceEqDiff,eq_self]
 rw[if_neg h2]
 obtain⟨m,rfl⟩:∃m:Nat,n=(m:Int):=⟨n.toNat,by omega⟩
 rw[Int.toNat_natCast]
 have h1f:((m:Int)<0)=False:=eq_false h1
 have h2f:((4096:Int)<(m:Int))=False:=eq_false h2
 obtain⟨q,hq⟩:∃q,q=ti k m [] m b:=⟨_,rfl⟩
 rw[←hq]
 suffices h:ag Tryz.prog 117 [.d (.list false (aG b)),iA m,iA k] H (.ok (if q.2.2≠0 then .bf [.d (.v (.slice none 0 0)),iA q.2.2]else if q.2.1≠[]then .bf [.d (.v (.slice none 0 0)),iA 4]else .bf [.d (.list false (q.1.map eP)),iA 0])) H by
  by_cases c1:q.2.2≠0
  ·rw[if_pos c1]at h⊢
   exact ag.bY h (.cons .nil (.cons (.refl _) .nil))
  ·rw[if_neg c1]at h⊢
   by_cases c2:q.2.1≠[]
   ·rw[if_pos c2]at h⊢
    exact ag.bY h (.cons .nil (.cons (.refl _) .nil))
   ·rw[if_neg c2]at h⊢
    exact h
 refine ag.aj (hint:=(fun _=>false)) Tryz.func117 (by kernel_rfl) rfl [6,7] (by kernel_rfl) (by decide) (by simp[Tryz.ntmps117]) ?_
 rw[Tryz.ntmps117]
 simp -implicitDefEqProofs only[↓reduceIte,go_sem,Nat.reduceLT,Nat.reduceEqDiff,eq_self]
 refine ab.ok (bC k _) ?_
 simp -implicitDefEqProofs only[↓reduceIte,go_sem,Nat.reduceLT,Nat.reduceEqDiff,reduceCtorEq,eq_self,hk1,h1f,h2f]
 refine cC _ _ _ _ (fun(x:Nat×List (Nat×ai)×Nat×List Nat) s H'=>H'=H++[.arr 165 4 x.2.1.length (x.2.1.map eP)]∧ti k x.1 x.2.1 x.2.2.1 x.2.2.2=q∧x.2.2.1≤x.1∧x.2.1.length+x.1≤4096∧x.2.2.2.length≤b.length∧(∀y∈x.2.2.2,y<256)∧s 0= .d (.list false (aG x.2.2.2))∧s 1=iA x.2.2.1∧s 2=iA k∧s 10= .sl H.length x.2.1.length 0 x.2.1.length) (fun x=>x.2.2.1) (m,[],m,b) (ar.eU _ _ 10 165 4 (by decide) (by simp -implicitDefEqProofs only[↓reduceIte,go_sem,Nat.reduceLT,eq_self]) _) ?_ ?_
 ·refine⟨rfl,hq.symm,Nat.le_refl _,by simp;omega,Nat.le_refl _,hb,?_⟩
  simp -implicitDefEqProofs only[↓reduceIte,go_sem,Nat.reduceEqDiff,reduceCtorEq,eq_self,List.length_nil]
 ·rintro⟨f,R,n,c⟩ s H' ⟨rfl,hT,hnf,hRf,hcl,hcb,t0,t1,t2,t10⟩
  simp only at hT hnf hRf hcl hcb t0 t1 t10⊢
  by_cases hn0:n=0
  ·subst hn0
   have hq2:q=(R,c,0):=by rw[←hT];cases f<;>simp[ti]
   rw[hq2]
   by_cases hc:c=[]
   ·subst hc
    simp -implicitDefEqProofs only[↓reduceIte,go_sem,Nat.reduceLT,Nat.reduceEqDiff,Int.reduceLT,reduceCtorEq,eq_self,t0,t1,t10,al,List.length_nil]
    refine aw.ret ?_
    simp -implicitDefEqProofs only[↓reduceIte,go_sem,Nat.reduceLT,Nat.reduceEqDiff,eq_self,ne_eq,not_true_eq_false,List.take_of_length_le (show(R.map eP).length≤R.length by rw[List.length_map];exact Nat.le_refl _)]
   ·have hcp:=List.length_pos_iff.2 hc
    simp -implicitDefEqProofs only[↓reduceIte,go_sem,Nat.reduceLT,Int.reduceLT,reduceCtorEq,eq_self,t0,t1,al,show(0<(c.length:Int))=True from eq_true (by omega)]
    refine aw.ret ?_
    simp -implicitDefEqProofs only[↓reduceIte,go_sem,Nat.reduceLT,Nat.reduceEqDiff,eq_self,ne_eq,hc,not_true_eq_false,not_false_eq_true]
  ·obtain⟨f,rfl⟩:∃g,f=g+1:=⟨f-1,by omega⟩
   have hnx:=fun H=>xU c n k (by omega) (by omega) hcb H
   have hnk:=fun q r=>qi (b:=c) (n:=n) (k:=k) (q:=q) (r:=r)
   have hTe:ti k (f+1) R n c=if n=0 then(R,c,0)else if(dC c n k).2.2≠0 then([],[],(dC c n k).2.2)else if R≠[]∧(cE R).2=(dC c n k).1.2 then([],[],4)else ti k f (R++[(dC c n k).1]) (n-(dC c n k).1.1) (dC c n k).2.1:=rfl
   rw[hTe,if_neg hn0]at hT
   clear hTe
   generalize dC c n k=x at*
   obtain⟨⟨rn,v⟩,r,e⟩:=x
   simp only at hT hnx
   simp -implicitDefEqProofs only[↓reduceIte,go_sem,Nat.reduceLT,Nat.reduceEqDiff,reduceCtorEq,eq_self,t0,t1,t2,show(0<(n:Int))=True from eq_true (by omega)]
   refine ab.ok (hnx _) ?_
   by_cases he:e=0
   ·subst he
    rw[if_neg (by simp)]at hT
    obtain⟨g1,g2,p,g3⟩:=hnk _ _ rfl
    simp only at g1 g2
    have hrl:r.length≤b.length:=by rw[g3,List.length_drop];omega
    have hrb:∀y∈r,y<256:=fun y hy=>hcb y (by rw[g3]at hy;exact List.mem_of_mem_drop hy)
    have hld:=rR R (H++[.arr 165 4 R.length (R.map eP),.box 165 4 0 1 [iA rn,iA v.kind,iA v.i,sA v.s]]) H.length R.length (by omega) (by simp)
    have hw:IntKind.i64.wrap ((n:Int)-(rn:Int))=((n-rn:Nat):Int):=by rw[wrap64_in _ (by omega) (by omega)];omega
    simp -implicitDefEqProofs only[↓reduceIte,go_sem,ak,Nat.reduceAdd,Nat.reduceLT,Nat.reduceEqDiff,eq_self,iZ,t10]
    refine ab.ok hld ?_
    by_cases hR0:R=[]
    ·subst hR0
     rw[if_neg (by simp)]at hT
     simp -implicitDefEqProofs only[↓reduceIte,go_sem,ah,ak,Nat.reduceAdd,Nat.reduceLT,Nat.reduceLeDiff,Nat.reduceEqDiff,reduceCtorEq,eq_self,iZ,cE,zR,zV,dA,List.getLast?_nil,Option.getD_none,ne_eq,not_true_eq_false,decide_false,t1,t10,List.length_nil,hw]
     refine⟨_,_,(f,[(rn,v)],n-rn,r),ar.cut [.arr 165 4 1 [[.v (.int .i64 rn),.v (.int .i64 v.kind),.v (.int .i64 v.i),.v (.string v.s)]]] [.box 165 4 0 1 [iA rn,iA v.kind,iA v.i,sA v.s],.box 165 4 0 1 [iA 0,iA 0,iA 0,sA ⟨#[]⟩]] 1 rfl _ (by simp -implicitDefEqProofs only[go_sem,eq_self]),⟨rfl,hT,by simp only;omega,by simp only[List.length_singleton]at*;simp only[List.length_nil]at hRf;omega,hrl,hrb,?_⟩,by simp only;omega⟩
     simp -implicitDefEqProofs only[↓reduceIte,go_sem,Nat.reduceLT,Nat.reduceEqDiff,reduceCtorEq,eq_self,t2,List.length_singleton]
    ·by_cases h2:(cE R).2=v
     ·rw[if_pos ⟨hR0,h2⟩]at hT
      subst hT
      generalize cE R=z at*
      obtain⟨m2,w⟩:=z
      simp only at h2
      subst h2
      simp -implicitDefEqProofs only[↓reduceIte,go_sem,ah,ak,Nat.reduceAdd,Nat.reduceLT,Nat.reduceEqDiff,Int.reduceEq,eq_self,iZ,ne_eq,hR0,not_false_eq_true,decide_true,ky]
      refine aw.ret ?_
      simp -implicitDefEqProofs only[↓reduceIte,go_sem,Nat.reduceLT,Nat.reduceEqDiff,Int.reduceEq,eq_self,not_false_eq_true]
     ·rw[if_neg (fun h=>h2 h.2)]at hT
      generalize cE R=z at*
      obtain⟨m2,w⟩:=z
      simp only at h2
      simp -implicitDefEqProofs only[↓reduceIte,go_sem,ah,ak,Nat.reduceAdd,Nat.reduceLT,Nat.reduceLeDiff,Nat.reduceEqDiff,reduceCtorEq,eq_self,iZ,ne_eq,hR0,not_false_eq_true,decide_true,ky,h2,decide_false,t1,t10,List.length_map,hw]
      have hsn:R.map eP++[[D.v (.int .i64 rn),.v (.int .i64 v.kind),.v (.int .i64 v.i),.v (.string v.s)]]=(R++[(rn,v)]).map eP:=by simp[eP]
      have hln:(R++[(rn,v)]).length=R.length+1:=by simp
      refine⟨by omega,by omega,_,_,(f,R++[(rn,v)],n-rn,r),ar.cut [.arr 165 4 (R.length+1) (R.map eP++[[.v (.int .i64 rn),.v (.int .i64 v.kind),.v (.int .i64 v.i),.v (.string v.s)]])] [.box 165 4 0 1 [iA rn,iA v.kind,iA v.i,sA v.s],.box 165 4 0 1 [iA m2,iA w.kind,iA w.i,sA w.s]] 1 rfl _ (by simp -implicitDefEqProofs only[go_sem,eq_self]),⟨by simp only[hsn,hln],hT,by simp only;omega,by simp only[hln];omega,hrl,hrb,?_⟩,by simp only;omega⟩
      simp -implicitDefEqProofs only[↓reduceIte,go_sem,Nat.reduceLT,Nat.reduceEqDiff,reduceCtorEq,eq_self,t2,hln]
   ·rw[if_pos he]at hT
    subst hT
    simp -implicitDefEqProofs only[↓reduceIte,go_sem,ak,Nat.reduceAdd,Nat.reduceLT,Nat.reduceEqDiff,eq_self,he,iZ]
    refine aw.ret ?_
    simp -implicitDefEqProofs only[↓reduceIte,go_sem,Nat.reduceLT,Nat.reduceEqDiff,eq_self]
theorem CW(a:Nat)(ha:a<18446744073709551616):IntKind.u64.wrap (so .u64 (a:Int) 4294967295)=((a%4294967296:Nat):Int):=by
 have h:=bits_and_u64_nat a 4294967295 ha (by omega)
 have e:a&&&4294967295=a%4294967296:=Nat.and_two_pow_sub_one_eq_mod a 32
 rw[e]at h
 exact h
theorem JP(a:Nat):iF .u64 (a:Int) 32=((a/4294967296:Nat):Int):=by
 show(a:Int).fdiv (4294967296:Int)=_
 rw[Int.fdiv_eq_ediv_of_nonneg _ (by omega)]
 omega
theorem nY(a:Nat)(ha:a<18446744073709551616):IntKind.u64.wrap (a:Int)=(a:Int):=lF _ (by omega) (by omega)
theorem I3(a:Nat):IntKind.u64.wrap (a:Int)=((a%18446744073709551616:Nat):Int):=by
 simp[IntKind.wrap,IntKind.signed,IntKind.bits]
theorem yR(x y:Nat)(hx:x<18446744073709551616)(hy:y<18446744073709551616)(H:aa):
  ag Tryz.prog 178 [du x,du y] H (.ok (.bf [du (x* y/18446744073709551616),du (x* y%18446744073709551616)])) H:=by
 obtain⟨bd,bt,bw,hhi⟩:=Lib.mul64_hi x y hx hy
 have ba:=Lib.half_mul_le (a:=x/4294967296) (b:=y/4294967296) (by omega) (by omega)
 have bb:=Lib.half_mul_le (a:=x/4294967296) (b:=y%4294967296) (by omega) (by omega)
 have bc:=Lib.half_mul_le (a:=x%4294967296) (b:=y/4294967296) (by omega) (by omega)
 have ba':x/4294967296* (y/4294967296)<18446744073709551616:=by omega
 have bb':x/4294967296* (y%4294967296)<18446744073709551616:=by omega
 have bc':x%4294967296* (y/4294967296)<18446744073709551616:=by omega
 have bh1:x/4294967296* (y/4294967296)+(x/4294967296* (y%4294967296)+x%4294967296* (y%4294967296)/4294967296)/4294967296<18446744073709551616:=by omega
 have bh:x/4294967296* (y/4294967296)+(x/4294967296* (y%4294967296)+x%4294967296* (y%4294967296)/4294967296)/4294967296+((x/4294967296* (y%4294967296)+x%4294967296* (y%4294967296)/4294967296)%4294967296+x%4294967296* (y/4294967296))/4294967296<18446744073709551616:=by omega
 refine ag.aj (hint:=(fun _=>false)) Tryz.func178 (by kernel_rfl) rfl [4,5] (by kernel_rfl) (by decide) (by simp[Tryz.ntmps178]) ?_
 rw[Tryz.ntmps178]
 simp -implicitDefEqProofs only[↓reduceIte,go_sem,Nat.reduceLT,Nat.reduceEqDiff,Int.reduceLE,reduceCtorEq,eq_self,du]
 refine aw.bq ?_
 simp -implicitDefEqProofs only[↓reduceIte,go_sem,Nat.reduceLT,Nat.reduceEqDiff,eq_self]
 simp only[CW x hx,CW y hy,JP,←Int.natCast_mul,←Int.natCast_add,nY _ bd,nY _ bb',nY _ bt,CW _ bt,nY _ bc',nY _ bw,nY _ ba',nY _ bh1,I3 (x* y),hhi]
 rw[nY _ (by rw[←hhi];exact bh)]
theorem Af(x y:Nat)(hx:x<18446744073709551616)(hy:y<18446744073709551616)(H:aa):ag Tryz.prog 171 [du x,du y] H (.ok (.bf [du (x* y/18446744073709551616),du (x* y%18446744073709551616)])) H:=by
 have hm:=fun H=>yR x y hx hy H
 generalize x* y/18446744073709551616=p at*
 generalize x* y%18446744073709551616=q at*
 refine ag.aj (hint:=(fun _=>false)) Tryz.func171 (by kernel_rfl) rfl [4,5] (by kernel_rfl) (by decide) (by simp[Tryz.ntmps171]) ?_
 rw[Tryz.ntmps171]
 simp -implicitDefEqProofs only[↓reduceIte,go_sem,Nat.reduceLT,Nat.reduceEqDiff,reduceCtorEq,eq_self]
 refine ab.ok (hm _) ?_
 simp -implicitDefEqProofs only[↓reduceIte,go_sem,Nat.reduceLT,Nat.reduceEqDiff,eq_self]
 refine aw.bq ?_
 simp -implicitDefEqProofs only[↓reduceIte,go_sem,Nat.reduceLT,Nat.reduceEqDiff,eq_self]
def zE:List D:=[.v (.int .i64 0),.v (.int .i64 0),.v (.string ⟨#[]⟩)]
def lD(v:ai)(m n:Nat):List (List D):=List.replicate n v.enc++List.replicate (m-n) zE
theorem CV(v:ai){m n:Nat}(h:n≤m):(lD v m n).length=m:=by simp[lD];omega
theorem xF(v:ai)(m n k:Nat):∀c∈(lD v m n).take k,c.length=3:=by
 intro c hc
 have:=List.mem_of_mem_take hc
 unfold lD at this
 rcases List.mem_append.1 this with h|h<;>rw[List.eq_of_mem_replicate h]<;>rfl
theorem Bj(v:ai){m n:Nat}(h:n≤m)(h0:0<n):bM (lD v m n) n (((lD v m n).take n).take (min n (m-n)))=lD v m (n+min n (m-n)):=by
 have e1:(lD v m n).take n=List.replicate n v.enc:=by
  unfold lD
  rw[List.take_left' (by simp)]
 rw[e1,List.take_replicate,show min (min n (m-n)) n=min n (m-n) by omega]
 unfold bM
 rw[e1]
 unfold lD
 rw[←List.replicate_append_replicate (n:=n) (m:=min n (m-n)),List.length_replicate,List.drop_append,List.length_replicate]
 rw[List.drop_eq_nil_of_le (by simp),List.nil_append,List.drop_replicate]
 congr 2
 omega
theorem vn(v:ai)(nn:Bool)(m:Nat)(hm:m≤4096)(H:aa):ag Tryz.prog 150 [.d (.list nn [v.enc]),iA m] H (.ok (.d (.list false (List.replicate m v.enc)))) H:=by
 have w1:IntKind.u64.wrap 1=1:=by decide
 have w2:IntKind.u64.wrap (m:Int)=(m:Int):=by simp[IntKind.wrap,IntKind.signed,IntKind.bits];omega
 have w3:IntKind.i64.wrap (m:Int)=(m:Int):=wrap64_in _ (by omega) (by omega)
 have hmul:=fun H=>Af 1 m (by omega) (by omega) H
 rw[Nat.one_mul,Nat.div_eq_of_lt (by omega),Nat.mod_eq_of_lt (by omega)]at hmul
 have hcopy:bM (List.replicate m zE) 0 ([v.enc].take (min 1 m))=lD v m (min 1 m):=by
  unfold bM lD
  rcases Nat.eq_zero_or_pos m with h|h
  ·subst h;rfl
  ·rw[show min 1 m=1 by omega]
   simp
 unfold zE at hcopy
 have hc1:(∀c∈[v.enc],c.length=3)=True:=eq_true fun c hc=>by rw[List.mem_singleton.1 hc];rfl
 have hvl:v.enc.length=3:=rfl
 generalize hV:v.enc=V at*
 refine ag.aj (hint:=(fun _=>false)) Tryz.func150 (by kernel_rfl) rfl [4] (by kernel_rfl) (by decide) (by simp[Tryz.ntmps150]) ?_
 rw[Tryz.ntmps150]
 simp -implicitDefEqProofs only[↓reduceIte,go_sem,Nat.reduceLT,Nat.reduceEqDiff,reduceCtorEq,eq_self,show((m:Int)<0)=False from eq_false (by omega),w1,w2]
 refine ab.ok (hmul _) ?_
 simp -implicitDefEqProofs only[↓reduceIte,go_sem,Nat.reduceLT,Nat.reduceEqDiff,Int.reduceLT,reduceCtorEq,eq_self,w3,show((9223372036854775807:Int)<(m:Int))=False from eq_false (by omega)]
 refine⟨⟨by omega,by omega⟩,hvl,?_⟩
 refine cC _ _ _ _ (fun(n:Nat) s H'=>H'=H++[.arr 25 3 0 (lD v m n)]∧n≤m∧(0<n∨m=0)∧s 7= .sl H.length 0 0 m∧s 8=iA n) (fun n=>m-n) (min 1 m) (ar.refl _ _) ?_ ?_
 ·refine⟨by simp -implicitDefEqProofs only[go_sem,eq_self,hcopy],by omega,by omega,?_⟩
  simp -implicitDefEqProofs only[↓reduceIte,go_sem,Nat.reduceLT,Nat.reduceEqDiff,eq_self]
 ·rintro n s H' ⟨rfl,hn,h0,t7,t8⟩
  have hlen:=CV v hn
  by_cases hlt:n<m
  ·have hst:=Bj v hn (by omega)
   have w4:IntKind.i64.wrap ((n:Int)+((min n (m-n):Nat):Int))=((n+min n (m-n):Nat):Int):=by rw[wrap64_in _ (by omega) (by omega)];omega
   obtain⟨q,hq⟩:∃q,q=n+min n (m-n):=⟨_,rfl⟩
   rw[←hq]at w4 hst
   simp -implicitDefEqProofs only[↓reduceIte,go_sem,Nat.reduceLT,Nat.reduceEqDiff,eq_self,t7,t8,show((n:Int)<(m:Int))=True from eq_true (by omega)]
   refine dr [some false,some false,some false,some false,some false,some false,some false,some true] 7 H K.mixed (by kernel_rfl) (by kernel_rfl) (by kernel_rfl) (Ext.app H _) ?_
   simp -implicitDefEqProofs only[↓reduceIte,go_sem,Nat.reduceLT,Nat.reduceEqDiff,Int.reduceLE,Int.reduceToNat,eq_self,t7,t8,Nat.sub_zero,List.length_take,hlen,Nat.min_eq_left hn,w4,hst]
   refine⟨hn,.inr hlt,hn,.inr (by omega),fun c hc=>xF v m n n c hc,_,_,q,ar.refl _ _,⟨rfl,by omega,by omega,?_⟩,by omega⟩
   simp -implicitDefEqProofs only[↓reduceIte,go_sem,Nat.reduceLT,Nat.reduceEqDiff,eq_self,t7]
  ·obtain rfl:n=m:=by omega
   simp -implicitDefEqProofs only[↓reduceIte,go_sem,Nat.reduceLT,Nat.reduceEqDiff,eq_self,t7,t8]
   refine aw.ret ?_
   have hrr:lD v n n=List.replicate n v.enc:=by unfold lD;rw[Nat.sub_self];simp
   rw[hV]at hrr
   simp -implicitDefEqProofs only[↓reduceIte,go_sem,Nat.reduceLT,eq_self,hrr,List.take_of_length_le (show(List.replicate n V).length≤n by simp)]
def bU(l:List ai)(r:Nat×ai):List ai:=l++List.replicate (min r.1 (4096-l.length)) r.2
def cJ(R:List (Nat×ai)):List ai:=R.foldl bU []
theorem tZ(R:List (Nat×ai))(r:Nat×ai):cJ (R++[r])=bU (cJ R) r:=by simp[cJ]
theorem pb(l:List ai)(r:Nat×ai)(h:l.length≤4096):(bU l r).length≤4096:=by simp[bU];omega
theorem ql(R:List (Nat×ai)):(cJ R).length≤4096:=by
 have:∀(R:List (Nat×ai)) (l:List ai),l.length≤4096→(R.foldl bU l).length≤4096:=by
  intro R
  induction R with
  |nil=>exact fun l h=>h
  |cons r R ih=>exact fun l h=>ih _ (pb l r h)
 exact this R [] (by simp)
theorem wY(R:List (Nat×ai))(nn:Bool)(hl:R.length≤1000000)(hn:∀r∈R,r.1≤1000000000)(H:aa):ag Tryz.prog 118 [.d (.list nn (R.map eP))] H (.ok (.d (.list false ((cJ R).map ai.enc)))) H:=by
 refine ag.aj (hint:=(fun _=>false)) Tryz.func118 (by kernel_rfl) rfl [2] (by kernel_rfl) (by decide) (by simp[Tryz.ntmps118]) ?_
 rw[Tryz.ntmps118]
 simp -implicitDefEqProofs only[↓reduceIte,go_sem,Nat.reduceLT,reduceCtorEq,eq_self]
 refine bl (fun k s H'=>∃ver,H'=H++[.arr 25 3 ver ((cJ (R.take k)).map ai.enc)]∧s 3= .sl H.length ver 0 (cJ (R.take k)).length∧s 6= .d (.list nn (R.map eP))∧s 7=iA R.length∧s 8=iA k) R.length (by omega) (ar.eU _ _ 3 25 3 (by decide) (by simp -implicitDefEqProofs only[↓reduceIte,go_sem,Nat.reduceLT,Nat.reduceEqDiff,eq_self]) _) ?_ ?_ ?_
 ·refine⟨0,rfl,?_⟩
  simp -implicitDefEqProofs only[↓reduceIte,go_sem,Nat.reduceLT,Nat.reduceEqDiff,eq_self]
  rfl
 ·rintro k s H' hk hw ⟨ver,rfl,t3,t6,t7,t8⟩
  have hx:(R.map eP)[k]?=some [.v (.int .i64 (R[k].1:Int)),.v (.int .i64 R[k].2.kind),.v (.int .i64 R[k].2.i),.v (.string R[k].2.s)]:=by rw[List.getElem?_map,List.getElem?_eq_getElem hk];rfl
  have e1:cJ (R.take (k+1))=bU (cJ (R.take k)) R[k]:=by rw[List.take_succ_eq_append_getElem hk,tZ]
  have hll:=ql (R.take k)
  have hnk:=hn _ (List.getElem_mem hk)
  rw[e1]
  generalize cJ (R.take k)=L at*
  generalize R[k]=r at*
  obtain⟨n,v⟩:=r
  simp only at hnk hx
  obtain⟨q,hq⟩:∃q,q=min n (4096-L.length):=⟨_,rfl⟩
  have hmx:max (n:Int) 0=(n:Int):=by omega
  have hmn:min (n:Int) (4096-(L.length:Int))=(q:Int):=by omega
  have wl:IntKind.i64.wrap (4096-(L.length:Int))=4096-(L.length:Int):=wrap64_in _ (by omega) (by omega)
  have hr:=fun H=>vn v true q (by omega) H
  have hst:(bU L (n,v)).map ai.enc=L.map ai.enc++List.replicate q v.enc:=by
   unfold bU
   rw[List.map_append,List.map_replicate,hq]
  have hsl:(bU L (n,v)).length=L.length+q:=by unfold bU;rw[List.length_append,List.length_replicate,hq]
  have h3:(∀c∈List.replicate q v.enc,c.length=3)=True:=eq_true fun c hc=>by rw[List.eq_of_mem_replicate hc];rfl
  have happ:L.map ai.enc++List.replicate q [D.v (.int .i64 v.kind),.v (.int .i64 v.i),.v (.string v.s)]=(bU L (n,v)).map ai.enc:=hst.symm
  unfold ai.enc at hr h3
  simp -implicitDefEqProofs only[↓reduceIte,go_sem,ah,ak,Nat.reduceAdd,Nat.reduceLT,Nat.reduceLeDiff,Nat.reduceEqDiff,eq_self,t3,t6,t7,t8,hk,hx,hmx,wl,hmn]
  refine ab.ok (hr _) ?_
  simp -implicitDefEqProofs only[↓reduceIte,go_sem,Nat.reduceAdd,Nat.reduceLT,Nat.reduceEqDiff,eq_self,t8,h3,List.length_map,List.length_replicate,happ]
  refine⟨by omega,by omega,?_⟩
  refine eQ.cut [.arr 25 3 (ver+1) ((bU L (n,v)).map ai.enc)] _ 1 rfl rfl (by simp -implicitDefEqProofs only[go_sem,eq_self]) ?_
  refine⟨ver+1,rfl,?_⟩
  simp -implicitDefEqProofs only[↓reduceIte,go_sem,Nat.reduceLT,Nat.reduceEqDiff,eq_self,t6,t7,hw,hsl]
 ·rintro s H' ⟨ver,rfl,t3,t6,t7,t8⟩
  rw[List.take_length]at*
  simp -implicitDefEqProofs only[↓reduceIte,go_sem,Nat.reduceLT,Nat.reduceEqDiff,eq_self,t3,t7,t8]
  refine aw.ret ?_
  simp -implicitDefEqProofs only[↓reduceIte,go_sem,Nat.reduceLT,eq_self,List.take_of_length_le (show((cJ R).map ai.enc).length≤(cJ R).length by rw[List.length_map];exact Nat.le_refl _)]
def fO(b:List Nat)(n k:Int):List ai×Int:=if(dK b n k).2≠0 then([],(dK b n k).2)else(cJ (dK b n k).1,0)
theorem G2(k:Int):∀(f:Nat) (R:List (Nat×ai)) (n:Nat) (b:List Nat) (m:Nat),n≤m→R.length+n≤4096→(∀r∈R,r.1≤m)→(ti k f R n b).1.length≤4096∧∀r∈(ti k f R n b).1,r.1≤m:=by
 intro f
 induction f with
 |zero=>intro R n b m h1 h2 h3;exact⟨by simp only[ti];omega,h3⟩
 |succ f ih=>
  intro R n b m h1 h2 h3
  unfold ti
  split
  ·exact⟨by simp only;omega,h3⟩
  rename_i hn0
  split
  ·exact⟨by simp,by simp⟩
  rename_i he
  split
  ·exact⟨by simp,by simp⟩
  obtain⟨q,r,e,hq⟩:∃q r e,dC b n k=(q,r,e):=⟨_,_,_,rfl⟩
  rw[hq]at he⊢
  obtain rfl:e=0:=by simpa using he
  obtain⟨g1,g2,_⟩:=qi hq
  refine ih _ _ _ m (by simp only;omega) (by simp only[List.length_append,List.length_singleton];omega) ?_
  intro x hx
  rcases List.mem_append.1 hx with h|h
  ·exact h3 x h
  ·rw[List.mem_singleton.1 h];simp only;omega
theorem BH(b:List Nat)(n k:Int):(dK b n k).1.length≤4096∧∀r∈(dK b n k).1,r.1≤4096:=by
 unfold dK
 split
 ·exact⟨by simp,by simp⟩
 split
 ·exact⟨by simp,by simp⟩
 split
 ·exact⟨by simp,by simp⟩
 split
 ·exact⟨by simp,by simp⟩
 split
 ·exact⟨by simp,by simp⟩
 exact G2 k _ [] _ b 4096 (by omega) (by simp;omega) (by simp)
theorem zc(b:List Nat)(n k:Int)(hl:b.length≤140737488351232)(hb:∀c∈b,c<256)(H:aa):
  ag Tryz.prog 82 [.d (.list false (aG b)),iA n,iA k] H (.ok (.bf [.d (.list false ((fO b n k).1.map ai.enc)),iA (fO b n k).2])) H:=by
 have ht:=fun H=>vw b n k hl hb H
 obtain⟨h1,h2⟩:=BH b n k
 unfold fO
 generalize dK b n k=q at*
 obtain⟨R,e⟩:=q
 simp only at ht h1 h2⊢
 have hs:=fun H=>wY R false (by omega) (fun r hr=>by have:=h2 r hr;omega) H
 by_cases he:e=0
 ·rw[if_neg (by simpa using he)]
  subst he
  refine ag.aj (hint:=(fun _=>false)) Tryz.func82 (by kernel_rfl) rfl [6,7] (by kernel_rfl) (by decide) (by simp[Tryz.ntmps82]) ?_
  rw[Tryz.ntmps82]
  simp -implicitDefEqProofs only[↓reduceIte,go_sem,Nat.reduceLT,Nat.reduceEqDiff,reduceCtorEq,eq_self]
  refine ab.ok (ht _) ?_
  simp -implicitDefEqProofs only[↓reduceIte,go_sem,Nat.reduceLT,Nat.reduceEqDiff,eq_self]
  refine ab.ok (hs _) ?_
  simp -implicitDefEqProofs only[↓reduceIte,go_sem,Nat.reduceLT,eq_self]
  refine aw.bq ?_
  simp -implicitDefEqProofs only[↓reduceIte,go_sem,Nat.reduceLT,Nat.reduceEqDiff,eq_self]
 ·rw[if_pos he]
  refine ag.bY (cs:=[.d (.v (.slice none 0 0)),iA e]) ?_ (.cons .nil (.cons (.refl _) .nil))
  refine ag.aj (hint:=(fun _=>false)) Tryz.func82 (by kernel_rfl) rfl [6,7] (by kernel_rfl) (by decide) (by simp[Tryz.ntmps82]) ?_
  rw[Tryz.ntmps82]
  simp -implicitDefEqProofs only[↓reduceIte,go_sem,Nat.reduceLT,Nat.reduceEqDiff,reduceCtorEq,eq_self]
  refine ab.ok (ht _) ?_
  simp -implicitDefEqProofs only[↓reduceIte,go_sem,Nat.reduceLT,Nat.reduceEqDiff,eq_self,he]
  refine aw.bq ?_
  simp -implicitDefEqProofs only[↓reduceIte,go_sem,Nat.reduceLT,Nat.reduceEqDiff,eq_self]
theorem uI(b:List Nat)(n k:Int)(hl:b.length≤140737488351232)(hb:∀c∈b,c<256)(G:aa)(id:Nat)(h:G[id]?=some (kB k)):
  ag Tryz.prog 81 [.d (.list false (aG b)),iA n,.ptr id 0 0 0] G (.ok (.bf [.d (.list false ((fO b n k).1.map ai.enc)),iA (fO b n k).2])) G:=by
 have hd:=fun H=>zc b n k hl hb H
 unfold kB at h
 refine ag.aj (hint:=(fun _=>false)) Tryz.func81 (by kernel_rfl) rfl [5,6] (by kernel_rfl) (by decide) (by simp[Tryz.ntmps81]) ?_
 rw[Tryz.ntmps81]
 simp -implicitDefEqProofs only[↓reduceIte,go_sem,ah,Nat.reduceLT,Nat.reduceEqDiff,reduceCtorEq,eq_self,h]
 refine ab.ok (hd _) ?_
 simp -implicitDefEqProofs only[↓reduceIte,go_sem,Nat.reduceLT,Nat.reduceEqDiff,eq_self]
 refine aw.bq ?_
 simp -implicitDefEqProofs only[↓reduceIte,go_sem,Nat.reduceLT,Nat.reduceEqDiff,eq_self]
def qL(x:Int)(S:List Nat):Nat→Int
 |0=>x
 |k+1=>IntKind.i64.wrap (qL x S k+ew (S.getD k 0))
def gV(x:Int)(S:List Nat)(n:Nat):List ai:=(List.range n).map fun k=>ca (qL x S k)
theorem gF(x:Int)(S:List Nat)(n:Nat):(gV x S n).length=n:=by simp[gV]
theorem Bc(x:Int)(S:List Nat)(n:Nat):gV x S (n+1)=gV x S n++[ca (qL x S n)]:=by simp[gV,List.range_succ]
theorem Dt(x:Int)(S:List Nat){n k:Nat}(h:k<n):(gV x S n)[k]?=some (ca (qL x S k)):=by simp[gV,h]
def HI(b:List Nat)(n:Nat):Option (List ai)×Int:=
 if(aJ b).2.2≠0 then(none,(aJ b).2.2)
 else if(aJ (b.drop (aJ b).2.1)).2.2≠0 then(none,(aJ (b.drop (aJ b).2.1)).2.2)
 else if 64<(aJ (b.drop (aJ b).2.1)).1 then(none,4)
 else if bG (b.drop ((aJ b).2.1+(aJ (b.drop (aJ b).2.1)).2.1)) (n-1) (aJ (b.drop (aJ b).2.1)).1≠0 then(none,bG (b.drop ((aJ b).2.1+(aJ (b.drop (aJ b).2.1)).2.1)) (n-1) (aJ (b.drop (aJ b).2.1)).1)
 else if cZ (bu (b.drop ((aJ b).2.1+(aJ (b.drop (aJ b).2.1)).2.1)) (n-1) (aJ (b.drop (aJ b).2.1)).1)≠(aJ (b.drop (aJ b).2.1)).1 then(none,4)
 else(some (gV (ew (aJ b).1) (bu (b.drop ((aJ b).2.1+(aJ (b.drop (aJ b).2.1)).2.1)) (n-1) (aJ (b.drop (aJ b).2.1)).1) n),0)
def ry(b:List Nat)(n:Int):Option (List ai)×Int:=
 if n<0∨4096<n then(none,2)
 else if n=0 then(none,if 0<b.length then 4 else 0)
 else HI b n.toNat
def kE:Option (List ai)→AV
 |some l=> .d (.list false (l.map ai.enc))
 |none=> .d (.v (.slice none 0 0))
theorem Fo(b:List Nat)(n:Int)(nn:Bool)(hl:b.length≤140737488351232)(hb:∀c∈b,c<256)(H:aa):
  ag Tryz.prog 88 [.d (.list nn (aG b)),iA n] H (.ok (.bf [kE (ry b n).1,iA (ry b n).2])) H:=by
 refine ag.aj (hint:=(fun t=>t==79)) Tryz.func88 (by kernel_rfl) rfl [4,5] (by kernel_rfl) (by decide) (by simp[Tryz.ntmps88]) ?_
 rw[Tryz.ntmps88]
 by_cases h1:n<0
 ·simp -implicitDefEqProofs only[↓reduceIte,go_sem,Nat.reduceLT,Nat.reduceEqDiff,eq_self,h1]
  refine aw.bq ?_
  simp -implicitDefEqProofs only[↓reduceIte,go_sem,Nat.reduceLT,Nat.reduceEqDiff,eq_self]
  simp[ry,h1,kE]
 by_cases h2:4096<n
 ·simp -implicitDefEqProofs only[↓reduceIte,go_sem,Nat.reduceLT,Nat.reduceEqDiff,reduceCtorEq,eq_self,h1,h2]
  refine aw.bq ?_
  simp -implicitDefEqProofs only[↓reduceIte,go_sem,Nat.reduceLT,Nat.reduceEqDiff,eq_self]
  simp[ry,h2,kE]
 by_cases h3:n=0
 ·subst h3
  by_cases h4:0<b.length
  ·have h4':(0<(b.length:Int))=True:=eq_true (by omega)
   simp -implicitDefEqProofs only[↓reduceIte,go_sem,Nat.reduceLT,Nat.reduceEqDiff,Int.reduceLT,reduceCtorEq,eq_self,al,h4']
   refine aw.bq ?_
   simp -implicitDefEqProofs only[↓reduceIte,go_sem,Nat.reduceLT,Nat.reduceEqDiff,eq_self]
   simp[ry,h4,kE]
  ·have h4':(0<(b.length:Int))=False:=eq_false (by omega)
   simp -implicitDefEqProofs only[↓reduceIte,go_sem,Nat.reduceLT,Nat.reduceEqDiff,Int.reduceLT,reduceCtorEq,eq_self,al,h4']
   refine aw.bq ?_
   simp -implicitDefEqProofs only[↓reduceIte,go_sem,Nat.reduceLT,Nat.reduceEqDiff,eq_self]
   simp[ry,h4,kE]
 have hR:ry b n=HI b n.toNat:=by simp[ry,h1,h2,h3]
 rw[hR]
 obtain⟨m,hm⟩:∃m:Nat,n=((m+1:Nat):Int):=⟨n.toNat-1,by omega⟩
 have hwn:IntKind.i64.wrap (n-1)=(m:Int):=by rw[wrap64_in _ (by omega) (by omega)];omega
 unfold HI
 rw[show n.toNat=m+1 by omega,show m+1-1=m from rfl]
 have hgl:=jw b
 have hglt:=jE b
 simp -implicitDefEqProofs only[↓reduceIte,go_sem,Nat.reduceAdd,Nat.reduceLT,Nat.reduceEqDiff,Nat.reduceBEq,reduceCtorEq,eq_self,h1,h2,h3]
 refine ab.ok (iW b nn (by omega) hb H) ?_
 generalize aJ b=g1 at*
 obtain⟨first,k,e⟩:=g1
 simp only at hgl hglt
 by_cases he:e=0
 ·subst he
  have hk0:((0:Int)≤(k:Int))=True:=eq_true (by omega)
  simp -implicitDefEqProofs only[↓reduceIte,go_sem,Nat.reduceAdd,Nat.reduceLT,Nat.reduceEqDiff,Nat.reduceBEq,reduceCtorEq,eq_self,aS,al,hk0]
  refine⟨by omega,?_⟩
  rw[show(aG b).take b.length=aG b from dD _ _ (al _),dV]
  have hgl2:=jw (b.drop k)
  have hglt2:=jE (b.drop k)
  have hb2:∀c∈b.drop k,c<256:=fun c hc=>hb c (List.mem_of_mem_drop hc)
  refine ab.ok (iW (b.drop k) false (by simp;omega) hb2 H) ?_
  rw[List.length_drop]at hgl2
  generalize aJ (b.drop k)=g2 at*
  obtain⟨w,j,e⟩:=g2
  simp only at hgl2 hglt2
  by_cases he:e=0
  ·subst he
   by_cases hw:64<w
   ·have hw':(64<(w:Int))=True:=eq_true (by omega)
    simp -implicitDefEqProofs only[↓reduceIte,go_sem,Nat.reduceAdd,Nat.reduceLT,Nat.reduceEqDiff,Nat.reduceBEq,eq_self,hw']
    refine aw.bq ?_
    simp -implicitDefEqProofs only[↓reduceIte,go_sem,Nat.reduceLT,Nat.reduceEqDiff,eq_self]
    simp[hw,kE]
   ·have hw':(64<(w:Int))=False:=eq_false (by omega)
    have hkj:IntKind.i64.wrap ((k:Int)+(j:Int))=((k+j:Nat):Int):=by rw[wrap64_in _ (by omega) (by omega)];rfl
    have hww:IntKind.i64.wrap (w:Int)=(w:Int):=wrap64_in _ (by omega) (by omega)
    obtain⟨p,hp⟩:∃p,p=k+j:=⟨_,rfl⟩
    rw[←hp]at hkj
    simp only[←hp]
    have hp0:((0:Int)≤(p:Int))=True:=eq_true (by omega)
    simp -implicitDefEqProofs only[↓reduceIte,go_sem,Nat.reduceAdd,Nat.reduceLT,Nat.reduceEqDiff,Nat.reduceBEq,reduceCtorEq,eq_self,hw',hkj,hww,hwn,aS,al,hp0]
    refine⟨by omega,?_⟩
    rw[show(aG b).take b.length=aG b from dD _ _ (al _),dV]
    have hb3:∀c∈b.drop p,c<256:=fun c hc=>hb c (List.mem_of_mem_drop hc)
    have hSl:=jJ (b.drop p) m w (by omega)
    have hSn:=cW (b.drop p) m w
    have hu:=jY (b.drop p) m w false (by simp;omega) hb3 (by omega) (by omega) H
    unfold gY at hu
    generalize bu (b.drop p) m w=S at*
    by_cases hue:bG (b.drop p) m w=0
    ·rw[hue]at hu⊢
     refine ab.ok hu ?_
     simp -implicitDefEqProofs only[↓reduceIte,go_sem,Nat.reduceAdd,Nat.reduceLT,Nat.reduceEqDiff,Nat.reduceBEq,eq_self]
     refine ab.ok (lZ S false H (by omega) hSl) ?_
     by_cases hwd:cZ S=w
     ·have hwd':(((cZ S:Nat):Int)=(w:Int))=True:=eq_true (by omega)
      simp -implicitDefEqProofs only[↓reduceIte,go_sem,Nat.reduceAdd,Nat.reduceLT,Nat.reduceEqDiff,Nat.reduceBEq,eq_self,hww,hwd']
      refine ab.ok (oY first hglt H) ?_
      simp -implicitDefEqProofs only[↓reduceIte,go_sem,Nat.reduceAdd,Nat.reduceLT,Nat.reduceLeDiff,Nat.reduceEqDiff,Nat.reduceBEq,eq_self,fT,hSn]
      refine bl (fun i s H'=>H'=H++[.arr 25 3 i ((gV (ew first) S (i+1)).map ai.enc)]∧s 12= .sl H.length i 0 (i+1)∧s 80= .d (.list false (us S))∧s 81=iA m∧s 82=iA i) m (by omega) (ar.refl _ _) ?_ ?_ ?_
      ·refine⟨?_,?_⟩
       ·simp -implicitDefEqProofs only[go_sem]
        rfl
       ·simp -implicitDefEqProofs only[↓reduceIte,go_sem,Nat.reduceLT,Nat.reduceEqDiff,eq_self]
      ·rintro i s H' hi hw2 ⟨rfl,t12,t80,t81,t82⟩
       have hx:=nJ S i (by omega)
       have hgd:S.getD i 0=S[i]'(by omega):=by simp[List.getD,show i<S.length by omega]
       have hsx:=hSl _ (List.getElem_mem (show i<S.length by omega))
       have hsu:gV (ew first) S (i+1+1)=gV (ew first) S (i+1)++[ca (IntKind.i64.wrap (qL (ew first) S i+ew (S[i]'(by omega))))]:=by rw[Bc,←hgd];rfl
       have hlst:=Dt (ew first) S (show i<i+1 by omega)
       have hln:=gF (ew first) S (i+1)
       generalize S[i]'(by omega)=x at hx hsx hsu
       rw[hsu]
       generalize qL (ew first) S i=y at*
       generalize gV (ew first) S (i+1)=L at*
       simp -implicitDefEqProofs only[↓reduceIte,go_sem,Nat.reduceAdd,Nat.reduceLT,Nat.reduceEqDiff,Nat.reduceBEq,eq_self,t80,t81,t82,hi,hx]
       have hii:((i:Int)<(i:Int)+1)=True:=eq_true (by omega)
       refine fu 11 K.mixed (by kernel_rfl) (by kernel_rfl) ?_
       simp -implicitDefEqProofs only[↓reduceIte,go_sem,ah,Nat.reduceAdd,Nat.reduceLT,Nat.reduceLeDiff,Nat.reduceEqDiff,eq_self,t12,hlst,hii,ai.enc,ca]
       refine ab.ok (oY x hsx _) ?_
       have hsn:L.map ai.enc++[[D.v (.int .i64 1),D.v (.int .i64 (IntKind.i64.wrap (y+ew x))),D.v (.string ⟨#[]⟩)]]=(L++[ca (IntKind.i64.wrap (y+ew x))]).map ai.enc:=by simp[ai.enc,ca,dA]
       simp -implicitDefEqProofs only[↓reduceIte,go_sem,Nat.reduceAdd,Nat.reduceLT,Nat.reduceLeDiff,Nat.reduceEqDiff,Nat.reduceBEq,eq_self,List.length_map,hln,hsn]
       refine⟨by omega,by omega,?_⟩
       simp -implicitDefEqProofs only[↓reduceIte,go_sem,Nat.reduceLT,eq_self,t82]
       refine eQ.same ⟨?_,?_⟩
       ·simp -implicitDefEqProofs only[go_sem,eq_self]
       ·simp -implicitDefEqProofs only[↓reduceIte,go_sem,Nat.reduceLT,Nat.reduceEqDiff,eq_self,t80,t81,hw2]
      ·rintro s H' ⟨rfl,t12,t80,t81,t82⟩
       simp -implicitDefEqProofs only[↓reduceIte,go_sem,Nat.reduceAdd,Nat.reduceLT,Nat.reduceEqDiff,Nat.reduceBEq,eq_self,t12,t81,t82]
       refine aw.ret ?_
       simp -implicitDefEqProofs only[↓reduceIte,go_sem,Nat.reduceLT,Nat.reduceEqDiff,eq_self]
       rw[show((gV (ew first) S (m+1)).map ai.enc).take (m+1)=(gV (ew first) S (m+1)).map ai.enc from dD _ _ (by rw[List.length_map,gF])]
       simp[hw,hwd,kE]
     ·have hwd':(((cZ S:Nat):Int)=(w:Int))=False:=eq_false (by omega)
      simp -implicitDefEqProofs only[↓reduceIte,go_sem,Nat.reduceLT,Nat.reduceEqDiff,eq_self,hww,hwd']
      refine aw.bq ?_
      simp -implicitDefEqProofs only[↓reduceIte,go_sem,Nat.reduceLT,Nat.reduceEqDiff,eq_self]
      simp[hw,hwd,kE]
    ·rw[if_neg hue]at hu
     refine ab.ok hu ?_
     simp -implicitDefEqProofs only[↓reduceIte,go_sem,Nat.reduceAdd,Nat.reduceLT,Nat.reduceEqDiff,Nat.reduceBEq,eq_self,hue]
     refine aw.bq ?_
     simp -implicitDefEqProofs only[↓reduceIte,go_sem,Nat.reduceLT,Nat.reduceEqDiff,eq_self]
     simp[hw,hue,kE]
  ·simp -implicitDefEqProofs only[↓reduceIte,go_sem,Nat.reduceAdd,Nat.reduceLT,Nat.reduceEqDiff,Nat.reduceBEq,eq_self,he]
   refine aw.bq ?_
   simp -implicitDefEqProofs only[↓reduceIte,go_sem,Nat.reduceLT,Nat.reduceEqDiff,eq_self]
   simp[he,kE]
 ·simp -implicitDefEqProofs only[↓reduceIte,go_sem,Nat.reduceAdd,Nat.reduceLT,Nat.reduceEqDiff,Nat.reduceBEq,eq_self,he]
  refine aw.bq ?_
  simp -implicitDefEqProofs only[↓reduceIte,go_sem,Nat.reduceLT,Nat.reduceEqDiff,eq_self]
  simp[he,kE]
end Go.Proofs.YtmbagpfmfiegkaaGreat
namespace Go.Proofs.YtmbagpfmfiegkaaGreatAw
open Go.RowKit
section
variable (P:Program) (hint:Nat→Bool) (n:Nat) (ops:Array Oper) (a p:Nat) (bx:aA) (B:aa)
def gl(o:Oper)(H:aa):Prop:=∃e z k b e',o.op= .alloc e∧o.guard=none∧TI P e=some (z,k,b)∧(0<k∧z.cells.size=k∧z.cells.all Value.oneCell'=true)∧pV hint o.dst=true∧bx= .box e k 1 1 (bT z.cells)∧H[p]?=some (.arr e' k 0 [])
def bz(Q:aP):Nat→List (Option Bool)→List Oper→(Nat→AV)→aa→Prop
 |_,[],l,s,H=>aV P hint n ops Q l s H
 |_,_::_,[],s,H=>aV P hint n ops Q [] s H
 |i,b::bs,o::rest,s,H=>if i=a then gl P hint p bx o H∧bz Q (i+1) bs rest (bJ n s o.dst (.ptr p 1 0 0)) (H.set p bx)else match b with
  |some false=>c8 P hint n ops (fun _ _ _=>False) o (fun s' H'=>H'=H∧bz Q (i+1) bs rest s' H') s H
  |none=>c8 P hint n ops (fun _ _ _=>False) o (fun s' H'=>H'=B∧bz Q (i+1) bs rest s' H) s B
  |some true=>o.guard=none∧(if i<a then ay P hint s H o (fun r H'=>ay P hint s (H.set p bx) o (fun r' H''=>r'=r∧H''=H'.set p bx∧H'[p]?=H[p]?∧Ext B H'∧bz Q (i+1) bs rest (bJ n s o.dst r) H') (fun _ _=>False)) (fun _ _=>False)
    else ay P hint s H o (fun r H'=>Ext B H'∧bz Q (i+1) bs rest (bJ n s o.dst r) H') (fun _ _=>False))
end
section
variable {P:Program} {hint:Nat→Bool} {n:Nat} {ops:Array Oper} {Q:aP} {a p:Nat} {bx:aA} {B:aa}
def vO(P:Program)(hint:Nat→Bool)(n:Nat)(ops:Array Oper)(a p:Nat)(bx:aA)(B:aa)(b:Option Bool)(i:Nat)(o:Oper)(s:Nat→AV)(r:AV)(H H':aa):Prop:=
 if i=a then gl P hint p bx o H∧r= .ptr p 1 0 0∧H'=H.set p bx else match b with
 |some false=>cj P hint n ops H s o r H∧H'=H
 |none=>cj P hint n ops B s o r B∧H'=H
 |some true=>cj P hint n ops H s o r H'∧Ext B H'∧(i<a→cj P hint n ops (H.set p bx) s o r (H'.set p bx)∧H'[p]?=H[p]?)
theorem jB{H H':aa}{s:Nat→AV}{o:Oper}{r:AV}(hg:o.guard=none)(h:∀K KP,K r H'→ay P hint s H o K KP):cj P hint n ops H s o r H':=by
 unfold cj
 rw[hg]
 exact h
theorem lg(hdt:∀(i:Nat) (o:Oper),ops[i]?=some o→j7 hint o.op=true)(s0:Nat→AV):∀(bs:List (Option Bool)) (k:Nat) (rs0:Nat→AV) (hp0:Nat→aa),k+bs.length≤ops.size→bz P hint n ops a p bx B Q k bs (ops.toList.drop k) (bF n ops s0 rs0 k) (hp0 k)→
  ∃(rs:Nat→AV) (hp:Nat→aa),(∀i,i<k→rs i=rs0 i)∧(∀i,i≤k→hp i=hp0 i)∧
   (∀i o b,k≤i→i<k+bs.length→ops[i]?=some o→bs[i-k]?=some b→vO P hint n ops a p bx B b i o (bF n ops s0 rs i) (rs i) (hp i) (hp (i+1)))∧
   aV P hint n ops Q (ops.toList.drop (k+bs.length)) (bF n ops s0 rs (k+bs.length)) (hp (k+bs.length))
 |[],k,rs0,hp0,hk,h=>⟨rs0,hp0,fun _ _=>rfl,fun _ _=>rfl,fun i o b h1 h2=>by simp at h2;omega,by
   have h:aV P hint n ops Q (ops.toList.drop k) (bF n ops s0 rs0 k) (hp0 k):=by
    cases hd:ops.toList.drop k<;>(rw[hd]at h;exact h)
   exact h⟩
 |b::bs,k,rs0,hp0,hk,h=>by
  simp only[List.length_cons]at hk
  have hlt:k<ops.size:=by omega
  have hget:ops[k]?=some ops[k]:=by simp[hlt]
  have hd:ops.toList.drop k=ops[k]::ops.toList.drop (k+1):=by
   rw[List.drop_eq_getElem_cons (by simpa using hlt)];simp
  rw[hd]at h
  have hdst:bj ops k=(ops[k]).dst:=by simp[bj,hget]
  have step:∃r H',vO P hint n ops a p bx B b k ops[k] (bF n ops s0 rs0 k) r (hp0 k) H'∧bz P hint n ops a p bx B Q (k+1) bs (ops.toList.drop (k+1)) (bJ n (bF n ops s0 rs0 k) (ops[k]).dst r) H':=by
   unfold vO
   unfold bz at h
   by_cases hka:k=a
   ·rw[if_pos hka]at h
    refine⟨.ptr p 1 0 0,(hp0 k).set p bx,?_,h.2⟩
    rw[if_pos hka]
    exact⟨h.1,rfl,rfl⟩
   ·rw[if_neg hka]at h
    simp only[if_neg hka]
    match b,h with
    |some false,h=>
     obtain⟨r,H',h1,rfl,h3⟩:=jv (hdt k _ hget) h
     exact⟨r,_,⟨h1,rfl⟩,h3⟩
    |none,h=>
     obtain⟨r,H',h1,rfl,h3⟩:=jv (hdt k _ hget) h
     exact⟨r,_,⟨h1,rfl⟩,h3⟩
    |some true,⟨hg,h⟩=>
     by_cases hlta:k<a
     ·rw[if_pos hlta]at h
      obtain⟨r,H',h1,h2⟩:=fw (hdt k _ hget) h
      obtain⟨r',H'',⟨rfl,rfl,h3,h4,h5⟩,h6⟩:=fw (hdt k _ hget) h1
      exact⟨r',H',⟨jB hg h2,h4,fun _=>⟨jB hg h6,h3⟩⟩,h5⟩
     ·rw[if_neg hlta]at h
      obtain⟨r,H',⟨h1,h3⟩,h2⟩:=fw (hdt k _ hget) h
      exact⟨r,H',⟨jB hg h2,h1,fun hh=>absurd hh hlta⟩,h3⟩
  obtain⟨r,H',h1,h4⟩:=step
  let rs1:Nat→AV:=fun i=>if i=k then r else rs0 i
  let hp1:Nat→aa:=fun i=>if i=k+1 then H' else hp0 i
  have e1:rs1 k=r:=if_pos rfl
  have e2:hp1 (k+1)=H':=if_pos rfl
  have hst:∀(rs:Nat→AV) i,i≤k→(∀j,j<i→rs j=rs0 j)→bF n ops s0 rs i=bF n ops s0 rs0 i:=by
   intro rs i
   induction i with
   |zero=>intros;rfl
   |succ i ih=>
    intro hi hr
    simp only[bF,ih (by omega) fun j hj=>hr j (by omega),hr i (by omega)]
  have h5:bz P hint n ops a p bx B Q (k+1) bs (ops.toList.drop (k+1)) (bF n ops s0 rs1 (k+1)) (hp1 (k+1)):=by
   rw[e2]
   simp only[bF,e1,hdst]
   rw[hst rs1 k (Nat.le_refl _) fun j hj=>if_neg (by omega)]
   exact h4
  obtain⟨rs,hp,g1,g2,g3,g4⟩:=lg hdt s0 bs (k+1) rs1 hp1 (by omega) h5
  have f1:∀i,i<k→rs i=rs0 i:=fun i hi=>by rw[g1 i (by omega)];exact if_neg (by omega)
  have f2:∀i,i≤k→hp i=hp0 i:=fun i hi=>by rw[g2 i (by omega)];exact if_neg (by omega)
  have f3:rs k=r:=by rw[g1 k (by omega)];exact e1
  have f4:hp (k+1)=H':=by rw[g2 (k+1) (by omega)];exact e2
  refine⟨rs,hp,f1,f2,fun i o b' hi hi2 ho hb=>?_,by rw[List.length_cons,show k+(bs.length+1)=k+1+bs.length from by omega];exact g4⟩
  rcases Nat.lt_or_ge k i with hki|hki
  ·refine g3 i o b' hki (by simp only[List.length_cons]at hi2;omega) ho ?_
   rwa[show i-k=(i-(k+1))+1 from by omega,List.getElem?_cons_succ]at hb
  ·obtain rfl:i=k:=by omega
   rw[hget]at ho
   cases ho
   rw[Nat.sub_self,List.getElem?_cons_zero]at hb
   cases hb
   rw[f2 i (Nat.le_refl _),f3,f4,hst rs i (Nat.le_refl _) fun j hj=>f1 j hj]
   exact h1
theorem gl.step{o:Oper}{H:aa}{s:Nat→AV}(h:gl P hint p bx o H):cj P hint n ops H s o (.ptr p 1 0 0) (H.set p bx):=by
 obtain⟨e,z,k,b,e',h1,h2,h3,h4,h5,h6,h7⟩:=h
 refine jB h2 fun K KP hk=>?_
 obtain⟨d,op,ty,ps,af,g⟩:=o
 simp only at h1 h2 h5
 subst h1 h2
 rw[wv,h3]
 refine⟨by rw[oQ h3];exact h4,?_⟩
 rw[h5]
 exact⟨p,e',h7,by rw[←h6];exact hk⟩
end
def rQ(hint:Nat→Bool)(ops:Array Oper)(bs:List (Option Bool))(a:Nat):Bool:=decide (a<bs.length)&&(List.range bs.length).all fun i=>i==a||match bs[i]?,ops[i]? with
 |some (some false),some o=>jH hint false o
 |some none,some o=>jH hint true o
 |some (some true),some _=>(decide (i<a)||cD ops 12 i a)&&(List.range i).all fun c=>c==a||bs[c]?==some (some false)||bs[c]?==some none||cD ops 12 i c
 |_,_=>false
section
variable {P:Program} {hint:Nat→Bool} {n:Nat} {ops:Array Oper} {Q:aP}
theorem rT(bs:List (Option Bool))(a p:Nat)(bx:aA)(B:aa){H0 H:aa}{id:Nat}{s:Nat→AV}(hm:P.follows .mixedOrders=true)(hc:ee hint ops=true)(ht:eg ops bs.length=true)(hx:rQ hint ops bs a=true)(hB:Ext B H)(hBp:∀o,B[p]?=some o→o.live=false)
  (h:bz P hint n ops a p bx B Q 0 bs ops.toList s H):cO P hint n H0 (.region id ops true) Q s H:=by
 obtain⟨hms,htl⟩:=eW ht
 refine⟨hm,?_⟩
 obtain⟨rs,w,_,g2,g3,g4⟩:=lg (cA hc).H5 s bs 0 (fun _=> .top) (fun _=>H) (by omega) h
 have g20:w 0=H:=g2 0 (Nat.le_refl _)
 simp only[Nat.zero_add,Nat.sub_zero,Nat.zero_le,true_implies]at g3 g4
 unfold rQ at hx
 rw[Bool.and_eq_true,List.all_eq_true]at hx
 obtain⟨ha,hx⟩:=hx
 have ha:a<bs.length:=by simpa using ha
 have hget:∀i,i<bs.length→∃o,ops[i]?=some o:=fun i hi=>⟨ops[i]'(by omega),by simp[show i<ops.size by omega]⟩
 have hbs:∀i (hi:i<bs.length),bs[i]?=some bs[i]:=fun i hi=>List.getElem?_eq_getElem hi
 let T:Nat→Bool:=fun i=>i !=a&&bs[i]?==some (some true)
 have TT:∀i,T i=true→i≠a∧bs[i]?=some (some true):=fun i h=>by
  have h:(i !=a&&bs[i]?==some (some true))=true:=h
  simpa using h
 have TF:∀i,i<bs.length→i≠a→T i=false→bs[i]?=some (some false)∨bs[i]?=some none:=fun i hi hia h=>by
  have h:(i !=a&&bs[i]?==some (some true))=false:=h
  rw[hbs i hi]at h⊢
  rcases hb:bs[i]with _|_|_
  ·exact .inr rfl
  ·exact .inl rfl
  ·rw[hb]at h;simp[hia]at h
 have say:∀i o,i<bs.length→ops[i]?=some o→vO P hint n ops a p bx B bs[i]! i o (bF n ops s rs i) (rs i) (w i) (w (i+1)):=fun i o hi ho=>g3 i o _ hi ho (by rw[hbs i hi];simp[hi])
 have sayT:∀i o,i<bs.length→ops[i]?=some o→T i=true→cj P hint n ops (w i) (bF n ops s rs i) o (rs i) (w (i+1))∧Ext B (w (i+1))∧(i<a→cj P hint n ops ((w i).set p bx) (bF n ops s rs i) o (rs i) ((w (i+1)).set p bx)∧(w (i+1))[p]?=(w i)[p]?):=by
  intro i o hi ho hT
  obtain⟨h1,h2⟩:=TT i hT
  have:=g3 i o _ hi ho h2
  unfold vO at this
  rwa[if_neg h1]at this
 have sayF:∀i o,i<bs.length→ops[i]?=some o→bs[i]?=some (some false)→i≠a→cj P hint n ops (w i) (bF n ops s rs i) o (rs i) (w i)∧w (i+1)=w i:=by
  intro i o hi ho h2 h1
  have:=g3 i o _ hi ho h2
  unfold vO at this
  rwa[if_neg h1]at this
 have sayN:∀i o,i<bs.length→ops[i]?=some o→bs[i]?=some none→i≠a→cj P hint n ops B (bF n ops s rs i) o (rs i) B∧w (i+1)=w i:=by
  intro i o hi ho h2 h1
  have:=g3 i o _ hi ho h2
  unfold vO at this
  rwa[if_neg h1]at this
 obtain⟨oa,hoa⟩:=hget a ha
 have sayA:gl P hint p bx oa (w a)∧rs a= .ptr p 1 0 0∧w (a+1)=(w a).set p bx:=by
  have:=g3 a oa _ ha hoa (hbs a ha)
  unfold vO at this
  rwa[if_pos rfl]at this
 have stay:∀i,i<bs.length→i≠a→T i=false→w (i+1)=w i:=by
  intro i hi hia hT
  obtain⟨o,ho⟩:=hget i hi
  rcases TF i hi hia hT with h|h
  ·exact(sayF i o hi ho h hia).2
  ·exact(sayN i o hi ho h hia).2
 have hext:∀j,j≤bs.length→Ext B (w j)∧Ext B ((w j).set p bx):=by
  have key:∀H:aa,Ext B H→Ext B (H.set p bx):=fun H hE i o ho hl=>by
   by_cases e:i=p
   ·subst e;rw[hBp o ho]at hl;cases hl
   ·rw[List.getElem?_set_ne (Ne.symm e)];exact hE i o ho hl
  intro j
  induction j with
  |zero=>intro _;rw[g20];exact⟨hB,key _ hB⟩
  |succ j ih=>
   intro hj
   obtain⟨o,ho⟩:=hget j (by omega)
   by_cases hja:j=a
   ·subst hja
    rw[sayA.2.2]
    exact⟨(ih (by omega)).2,key _ (ih (by omega)).2⟩
   ·cases hT:T j with
    |true=>have:=(sayT j o (by omega) ho hT).2.1;exact⟨this,key _ this⟩
    |false=>rw[stay j (by omega) hja hT];exact ih (by omega)
 let u:Nat→aa:=fun i=>if i≤a then(w i).set p bx else w i
 have u1:∀i,i≤a→u i=(w i).set p bx:=fun i hi=>if_pos hi
 have u2:∀i,a<i→u i=w i:=fun i hi=>if_neg (by omega)
 have ustay:∀i,i<bs.length→T i=false→u (i+1)=u i:=by
  intro i hi hT
  rcases Nat.lt_trichotomy i a with h|h|h
  ·rw[u1 i (by omega),u1 (i+1) (by omega),stay i hi (by omega) hT]
  ·subst h;rw[u1 i (Nat.le_refl _),u2 (i+1) (by omega),sayA.2.2]
  ·rw[u2 i h,u2 (i+1) (by omega),stay i hi (by omega) hT]
 have chain:∀(f:Nat→aa) (N:Nat),(∀i,i<N→T i=false→f (i+1)=f i)→∀q i,q≤N→i≤N→(∀c,c<N→T c=true→(c<q↔c<i))→f q=f i:=by
  intro f N hf
  have up:∀d q,q+d≤N→(∀c,c<N→T c=true→(c<q↔c<q+d))→f (q+d)=f q:=by
   intro d
   induction d with
   |zero=>intros;rfl
   |succ d ihd=>
    intro q hq hcc
    have h1:T (q+d)=false:=by
     cases h:T (q+d)with
     |false=>rfl
     |true=>have:=(hcc (q+d) (by omega) h).2 (by omega);omega
    rw[←Nat.add_assoc,hf (q+d) (by omega) h1]
    exact ihd q (by omega) fun c hcm hct=>⟨fun h=>by omega,fun h=>(hcc c hcm hct).2 (by omega)⟩
  intro q i hq hi hcc
  rcases Nat.le_total q i with h|h
  ·obtain⟨d,rfl⟩:=Nat.exists_eq_add_of_le h
   exact(up d q hi hcc).symm
  ·obtain⟨d,rfl⟩:=Nat.exists_eq_add_of_le h
   exact up d i hq fun c hcm hct=>(hcc c hcm hct).symm
 have hsu:=chain u bs.length ustay
 have hsw:=chain w a fun i hi hT=>stay i (by omega) (by omega) hT
 have hole:∀j,j≤a→(w j)[p]?=(w 0)[p]?:=by
  intro j
  induction j with
  |zero=>intro _;rfl
  |succ j ih=>
   intro hj
   obtain⟨o,ho⟩:=hget j (by omega)
   cases hT:T j with
   |true=>rw[((sayT j o (by omega) ho hT).2.2 (by omega)).2];exact ih (by omega)
   |false=>rw[stay j (by omega) (by omega) hT];exact ih (by omega)
 have chk:∀i o,i<bs.length→ops[i]?=some o→T i=true→(i<a∨cD ops 12 i a=true)∧∀c,c<i→T c=true→cD ops 12 i c=true:=by
  intro i o hi ho hT
  obtain⟨h1,h2⟩:=TT i hT
  have:=hx i (List.mem_range.2 hi)
  rw[h2,ho]at this
  simp only[Bool.or_eq_true,beq_iff_eq,h1,false_or,Bool.and_eq_true,decide_eq_true_eq,List.all_eq_true]at this
  refine⟨this.1,fun c hci hct=>?_⟩
  obtain⟨h3,h4⟩:=TT c hct
  have:=this.2 c (List.mem_range.2 hci)
  rw[h4]at this
  simpa[h3]using this
 refine pr (cA hc) bs.length hms htl s rs (fun L G=>∃q,q≤bs.length∧(∀c,c<bs.length→T c=true→(L c=true↔c<q))∧((L a=true∧G=u q)∨(L a=false∧q≤a∧G=w q))) ?_ ?_ ?_ ops.size (Array.replicate ops.size false) s H (by simp) ?_ ?_ ?_ ?_ ?_ ⟨0,Nat.zero_le _,fun c hcm hct=>?_,.inr ⟨?_,Nat.zero_le _,g20.symm⟩⟩
 ·rintro L L' G hL ⟨q,h1,h2,h3⟩
  exact⟨q,h1,fun c hcm hct=>by rw[←hL c hcm];exact h2 c hcm hct,by rw[←hL a ha];exact h3⟩
 ·rintro L G i o ⟨q,hqm,hql,hG⟩ him hgo hun hcl hbi
  have hnew:∀c,c≠i→(if c=i then true else L c)=L c:=fun c hc=>if_neg hc
  by_cases hia:i=a
  ·subst hia
   rcases hG with⟨hL,_⟩|⟨_,hqa,rfl⟩
   ·rw[hL]at hun;cases hun
   have e:o=oa:=Option.some.inj (hgo.symm.trans hoa)
   subst e
   obtain⟨e,z,k,b,e',k1,k2,k3,k4,k5,k6,k7⟩:=sayA.1
   have hA:gl P hint p bx o (w q):=⟨e,z,k,b,e',k1,k2,k3,k4,k5,k6,by rw[hole q hqa,←hole i (Nat.le_refl _)];exact k7⟩
   refine⟨_,by rw[sayA.2.1];exact hA.step,q,hqm,fun c hcm hct=>?_,.inl ⟨by simp,(u1 q hqa).symm⟩⟩
   show(if c=i then true else L c)=true↔c<q
   rw[hnew c (TT c hct).1]
   exact hql c hcm hct
  ·have hLa:(if a=i then true else L a)=L a:=if_neg (Ne.symm hia)
   cases hT:T i with
   |false=>
    have hS:cj P hint n ops G (bF n ops s rs i) o (rs i) G:=by
     have hfl:=hx i (List.mem_range.2 him)
     have hEx:Ext B G:=by
      rcases hG with⟨_,rfl⟩|⟨_,_,rfl⟩
      ·rcases Nat.lt_or_ge a q with h|h
       ·rw[u2 q h];exact(hext q hqm).1
       ·rw[u1 q h];exact(hext q hqm).2
      ·exact(hext q hqm).1
     rcases TF i him hia hT with hk|hk
     ·rw[hk,hgo]at hfl
      simp only[Bool.or_eq_true,beq_iff_eq,hia,false_or]at hfl
      exact eh hfl (fun hf=>by cases hf) (sayF i o him hgo hk hia).1
     ·rw[hk,hgo]at hfl
      simp only[Bool.or_eq_true,beq_iff_eq,hia,false_or]at hfl
      exact eh (first:=true) hfl (fun _=>hEx) (sayN i o him hgo hk hia).1
    refine⟨G,hS,q,hqm,fun c hcm hct=>?_,by simp only[hLa];exact hG⟩
    show(if c=i then true else L c)=true↔c<q
    rw[hnew c (by intro e;rw[e,hT]at hct;cases hct)]
    exact hql c hcm hct
   |true=>
    obtain⟨hra,hrc⟩:=chk i o him hgo hT
    have breach:∀c o',ops[c]?=some o'→(∀j,aY o' j=true→L j=true)→∀i',cD ops 12 c i'=true→L i'=true:=fun c o' hoc hb i' hr=>fH hcl 12 c o' hoc hb i' hr
    have hbef:∀c,c<bs.length→T c=true→(L c=true↔c<i):=by
     intro c hcm hct
     refine⟨fun hl=>?_,fun hlt=>breach i o hgo hbi c (hrc c hlt hct)⟩
     rcases Nat.lt_trichotomy c i with h|h|h
     ·exact h
     ·subst h;rw[hun]at hl;cases hl
     ·exfalso
      obtain⟨oc,hgc⟩:=hget c hcm
      have:=breach c oc hgc (fun j hj=>hcl c oc j hgc hl hj) i ((chk c oc hcm hgc hct).2 i h hT)
      rw[hun]at this
      cases this
    have heq:∀c,c<bs.length→T c=true→(c<q↔c<i):=fun c hcm hct=>(hql c hcm hct).symm.trans (hbef c hcm hct)
    have hq':∀c,c<bs.length→T c=true→((if c=i then true else L c)=true↔c<i+1):=fun c hcm hct=>by
     by_cases e:c=i
     ·subst e;simp
     ·rw[if_neg e]
      exact(hbef c hcm hct).trans ⟨fun h=>by omega,fun h=>by omega⟩
    obtain⟨s1,_,s3⟩:=sayT i o him hgo hT
    rcases hG with⟨hL,rfl⟩|⟨hL,hqa,rfl⟩
    ·have hu:=hsu q i hqm (by omega) heq
     rw[hu]
     rcases Nat.lt_or_ge i a with h|h
     ·refine⟨u (i+1),by rw[u1 i (by omega),u1 (i+1) (by omega)];exact(s3 h).1,i+1,by omega,hq',.inl ⟨by show(if a=i then true else L a)=true;rw[hLa];exact hL,rfl⟩⟩
     ·refine⟨u (i+1),by rw[u2 i (by omega),u2 (i+1) (by omega)];exact s1,i+1,by omega,hq',.inl ⟨by show(if a=i then true else L a)=true;rw[hLa];exact hL,rfl⟩⟩
    ·have hilt:i<a:=by
      rcases hra with h|h
      ·exact h
      ·have:=breach i o hgo hbi a h
       rw[hL]at this;cases this
     have hw:=hsw q i hqa (by omega) fun c hcm hct=>heq c (by omega) hct
     rw[hw]
     exact⟨_,s1,i+1,by omega,hq',.inr ⟨by show(if a=i then true else L a)=false;rw[hLa];exact hL,by omega,rfl⟩⟩
 ·rintro L G hall ⟨q,hqm,hql,hG⟩
  rcases hG with⟨_,rfl⟩|⟨hL,_⟩
  ·rw[hsu q bs.length hqm (Nat.le_refl _) fun c hcm hct=>⟨fun _=>hcm,fun _=>(hql c hcm hct).1 (hall c hcm)⟩,u2 _ ha]
   exact g4
  ·rw[hall a ha]at hL;cases hL
 ·exact Nat.le_trans List.countP_le_length (by simp)
 ·intro t j hj
  have hjl:=et hj
  rw[if_neg (by simp[Array.getD,hjl])]
 ·intro t _;rfl
 ·intro j oj i hoj hl
  have hjl:=(Array.getElem?_eq_some_iff.1 hoj).1
  simp[Array.getD,hjl]at hl
 ·intro i hi hi2
  simp[Array.getD,hi2]
 ·have:c<ops.size:=by omega
  simp[Array.getD,this]
 ·simp[Array.getD,show a<ops.size by omega]
end
section
variable (P:Program) (hint:Nat→Bool) (n:Nat) (ops:Array Oper) (a p:Nat) (bx:aA) (B:aa) (Q:aP) (i:Nat) (bs:List (Option Bool)) (rest:List Oper) (s:Nat→AV) (H:aa)
def tP(d:Option Tmp)(H0:aa):AV→aa→Prop:=fun r H'=>H'=B∧bz P hint n ops a p bx B Q (i+1) bs rest (bJ n s d r) H0
def sm(d:Option Tmp)(H0:aa):AV→aa→Prop:=fun r H'=>H'=H0∧bz P hint n ops a p bx B Q (i+1) bs rest (bJ n s d r) H'
def nC(d:Option Tmp)(H0:aa)(r:AV)(H':aa):AV→aa→Prop:=fun r' H''=>r'=r∧H''=H'.set p bx∧H'[p]?=H0[p]?∧Ext B H'∧bz P hint n ops a p bx B Q (i+1) bs rest (bJ n s d r) H'
def nB(o:Oper)(H0:aa):AV→aa→Prop:=fun r H'=>if i<a then ay P hint s (H0.set p bx) o (nC P hint n ops a p bx B Q i bs rest s o.dst H0 r H') CE else Ext B H'∧bz P hint n ops a p bx B Q (i+1) bs rest (bJ n s o.dst r) H'
theorem AA(d:Option Tmp)(H0:aa)(r:AV):tP P hint n ops a p bx B Q i bs rest s d H0 r H=(H=B∧bz P hint n ops a p bx B Q (i+1) bs rest (bJ n s d r) H0):=rfl
theorem Ck(d:Option Tmp)(H0:aa)(r:AV):sm P hint n ops a p bx B Q i bs rest s d H0 r H=(H=H0∧bz P hint n ops a p bx B Q (i+1) bs rest (bJ n s d r) H):=rfl
theorem Aq(d:Option Tmp)(H0:aa)(r:AV)(H':aa)(r':AV):nC P hint n ops a p bx B Q i bs rest s d H0 r H' r' H=(r'=r∧H=H'.set p bx∧H'[p]?=H0[p]?∧Ext B H'∧bz P hint n ops a p bx B Q (i+1) bs rest (bJ n s d r) H'):=rfl
theorem BL(d:Option Tmp)(op:Op)(ty:TypeId)(ps:String)(af:Array Edge)(g:Option (Nat×Bool))(H0:aa)(r:AV):nB P hint n ops a p bx B Q i bs rest s ⟨d,op,ty,ps,af,g⟩ H0 r H=(if i<a then ay P hint s (H0.set p bx) ⟨d,op,ty,ps,af,g⟩ (nC P hint n ops a p bx B Q i bs rest s d H0 r H) CE else Ext B H∧bz P hint n ops a p bx B Q (i+1) bs rest (bJ n s d r) H):=rfl
theorem uC(l:List Oper):bz P hint n ops a p bx B Q i [] l s H=aV P hint n ops Q l s H:=by cases l<;>rfl
theorem xS(l:List Oper):bz P hint n ops a p bx B Q i bs l.toArray.toList s H=bz P hint n ops a p bx B Q i bs l s H:=rfl
theorem A1(d:Option Tmp)(op:Op)(ty:TypeId)(ps:String)(af:Array Edge):bz P hint n ops a p bx B Q i (some false::bs) (⟨d,op,ty,ps,af,none⟩::rest) s H=if i=a then gl P hint p bx ⟨d,op,ty,ps,af,none⟩ H∧bz P hint n ops a p bx B Q (i+1) bs rest (bJ n s d (.ptr p 1 0 0)) (H.set p bx)else ay P hint s H ⟨d,op,ty,ps,af,none⟩ (sm P hint n ops a p bx B Q i bs rest s d H) CE:=by
 simp only[bz,c8]<;>rfl
theorem BS(d:Option Tmp)(op:Op)(ty:TypeId)(ps:String)(af:Array Edge):bz P hint n ops a p bx B Q i (none::bs) (⟨d,op,ty,ps,af,none⟩::rest) s H=if i=a then gl P hint p bx ⟨d,op,ty,ps,af,none⟩ H∧bz P hint n ops a p bx B Q (i+1) bs rest (bJ n s d (.ptr p 1 0 0)) (H.set p bx)else ay P hint s B ⟨d,op,ty,ps,af,none⟩ (tP P hint n ops a p bx B Q i bs rest s d H) CE:=by
 simp only[bz,c8]<;>rfl
theorem Cc(d:Option Tmp)(op:Op)(ty:TypeId)(ps:String)(af:Array Edge):bz P hint n ops a p bx B Q i (some true::bs) (⟨d,op,ty,ps,af,none⟩::rest) s H=if i=a then gl P hint p bx ⟨d,op,ty,ps,af,none⟩ H∧bz P hint n ops a p bx B Q (i+1) bs rest (bJ n s d (.ptr p 1 0 0)) (H.set p bx)else ay P hint s H ⟨d,op,ty,ps,af,none⟩ (nB P hint n ops a p bx B Q i bs rest s ⟨d,op,ty,ps,af,none⟩ H) CE:=by
 simp only[bz,true_and]
 by_cases h:i<a
 ·have e:nB P hint n ops a p bx B Q i bs rest s ⟨d,op,ty,ps,af,none⟩ H=fun r H'=>ay P hint s (H.set p bx) ⟨d,op,ty,ps,af,none⟩ (nC P hint n ops a p bx B Q i bs rest s d H r H') CE:=by
   funext r H';exact if_pos h
  rw[e,if_pos h];rfl
 ·have e:nB P hint n ops a p bx B Q i bs rest s ⟨d,op,ty,ps,af,none⟩ H=fun r H'=>Ext B H'∧bz P hint n ops a p bx B Q (i+1) bs rest (bJ n s d r) H':=by
   funext r H';exact if_neg h
  rw[e,if_neg h];rfl
end
section
variable {P:Program} {hint:Nat→Bool} {n:Nat} {ops:Array Oper} {a p:Nat} {bx:aA} {B:aa} {Q:aP} {i:Nat} {bs:List (Option Bool)} {rest:List Oper} {s:Nat→AV}
@[congr] theorem Jc {l:List Oper} {H H':aa} (h:nf H=H'):bz P hint n ops a p bx B Q i bs l s H=bz P hint n ops a p bx B Q i bs l s H':=by rw[←h];rfl
@[congr] theorem HO {d:Option Tmp} {H0 H H':aa} {r r':AV} (g:nf r=r') (h:nf H=H'):tP P hint n ops a p bx B Q i bs rest s d H0 r H=tP P hint n ops a p bx B Q i bs rest s d H0 r' H':=by rw[←g,←h];rfl
@[congr] theorem HK {d:Option Tmp} {H0 H H':aa} {r r':AV} (g:nf r=r') (h:nf H=H'):sm P hint n ops a p bx B Q i bs rest s d H0 r H=sm P hint n ops a p bx B Q i bs rest s d H0 r' H':=by rw[←g,←h];rfl
@[congr] theorem HJ {d:Option Tmp} {H0 H1 H H':aa} {r0 r r':AV} (g:nf r=r') (h:nf H=H'):nC P hint n ops a p bx B Q i bs rest s d H0 r0 H1 r H=nC P hint n ops a p bx B Q i bs rest s d H0 r0 H1 r' H':=by rw[←g,←h];rfl
@[congr] theorem HH {o:Oper} {H0 H H':aa} {r r':AV} (g:nf r=r') (h:nf H=H'):nB P hint n ops a p bx B Q i bs rest s o H0 r H=nB P hint n ops a p bx B Q i bs rest s o H0 r' H':=by rw[←g,←h];rfl
end
attribute [go_sem] AA Ck Aq BL uC xS A1 BS Cc
end Go.Proofs.YtmbagpfmfiegkaaGreatAw
namespace Go.Proofs.YtmbagpfmfiegkaaGreat
open Go.Proofs.YtmbagpfmfiegkaaGreatAw Go.RowKit
noncomputable def fS(b:List Nat)(n k w:Int):List ai×Int:=
 if w=1 then dq b n k else if w=2 then fO b n k else if w=3 then fB b n k
 else if w=4∧k=1 then((ry b n).1.getD [],(ry b n).2)else([],1)
noncomputable def dw(s:Sg):List ai×Int:=
 if(fS s.body ((s.aM.rows:Int)-(aE s.az:Int)) s.kind s.aX).2≠0∨s.az=[]then fS s.body ((s.aM.rows:Int)-(aE s.az:Int)) s.kind s.aX
 else gA s.az (fS s.body ((s.aM.rows:Int)-(aE s.az:Int)) s.kind s.aX).1
theorem mG(k:Int)(H:aa)(o1 o2:aA):ag Tryz.prog 46 [iA k] (H++[o1,o2]) (.ok (.mp (H.length+3))) (H++[o1,o2,kB k,.mp .i64 (gR (H.length+2) k)]):=by
 have h:=eJ k (H++[o1,o2])
 rw[List.length_append,List.append_assoc]at h
 exact h
theorem IL(H:aa)(o:aA)(T:aa):Ext (H++[o]) (H++o::T)=True:=eq_true (by have:=Ext.app (H++[o]) T;rwa[List.append_assoc]at this)
theorem xJ(s:Sg)(f1 f2:FuncId)(c1 c2:List AV)(L:List ai)(e:Int)(H:aa)(hr:s.aM.rows≤1000000)(hn:s.az.length≤1000000)(hL:L.length≤1000000000)
  (hg:eT s.aX (gR (H.length+2) s.kind)=some (.agg [.fn f1 c1,.fn f2 c2]))
  (hd:∀G:aa,G[H.length+2]?=some (kB s.kind)→ag Tryz.prog f2 ([.d (.list false (aG s.body)),iA ((s.aM.rows:Int)-(aE s.az:Int))]++c2) G (.ok (.bf [.d (.list false (L.map ai.enc)),iA e])) G):
  ag Tryz.prog 21 [.agg s.cs] H (.ok (if e≠0∨s.az=[]then .bf [.d (.list false (L.map ai.enc)),iA e]else .bf [.d (.list false ((gA s.az L).1.map ai.enc)),iA (gA s.az L).2])) H:=by
 obtain⟨k,w,⟨zr,zn,zmn,zmx⟩,ns,b⟩:=s
 simp only at hg hd hr hn⊢
 have hcn:=fun G=>pW ns false (by omega) G
 have hcl:=fj ns
 have hwr:IntKind.i64.wrap ((zr:Int)-(aE ns:Int))=(zr:Int)-(aE ns:Int):=wrap64_in _ (by omega) (by omega)
 unfold Sg.cs
 have hc:=mG k H
 have hE:=IL H
 have hd1:=hd
 refine ag.aj (hint:=(fun t=>t==4||t==1000001)) Tryz.func21 (by kernel_rfl) rfl [2,3] (by kernel_rfl) (by decide) (by simp[Tryz.ntmps21]) ?_
 rw[Tryz.ntmps21]
 simp -implicitDefEqProofs only[↓reduceIte,go_sem,Nat.reduceAdd,Nat.reduceLT,Nat.reduceBEq,eq_self]
 have hti:TI Tryz.prog 97=some ((.agg #[.nilFunc,.nilFunc]:Value),2,16):=by kernel_rfl
 refine⟨_,_,ar.eU _ _ 2 97 2 (by decide) (by simp -implicitDefEqProofs only[↓reduceIte,go_sem,Nat.reduceLT,Nat.reduceEqDiff,eq_self]) _,?_⟩
 simp -implicitDefEqProofs only[go_sem]
 refine rT [none,none,some true,none,none,some true,some false,some false,some false,some false,some true] 9 (H.length+1) (.box 97 2 1 1 [.d (.v .nilFunc),.d (.v .nilFunc)]) (H++[.box 30 12 0 1 [iA k,iA w,iA zr,iA zn,iA zmn.kind,iA zmn.i,sA zmn.s,iA zmx.kind,iA zmx.i,sA zmx.s,.d (.list false (cr ns)),.d (.list false (aG b))]]) K.mixed (by kernel_rfl) (by kernel_rfl) (by kernel_rfl) ?_ ?_ ?_
 ·rw[hE];trivial
 ·intro o ho
  simp at ho
 simp -implicitDefEqProofs only[↓reduceIte,go_sem,ah,Nat.reduceAdd,Nat.reduceLT,Nat.reduceLeDiff,Nat.reduceEqDiff,reduceCtorEq,eq_self]
 refine ab.ok (hc _ _) ?_
 simp -implicitDefEqProofs only[↓reduceIte,go_sem,Nat.reduceAdd,Nat.reduceLT,eq_self]
 refine ab.ok (hc _ _) ?_
 simp -implicitDefEqProofs only[↓reduceIte,go_sem,ah,ak,Nat.reduceAdd,Nat.reduceLT,Nat.reduceLeDiff,Nat.reduceEqDiff,Nat.reduceBEq,eq_self,hE,hg,Option.getD_some,Option.isSome_some]
 refine⟨⟨_,_,_,_,97,rfl,rfl,hti,⟨by decide,by kernel_rfl,by kernel_rfl⟩,rfl,rfl,by simp -implicitDefEqProofs only[go_sem,eq_self]⟩,?_⟩
 refine dr [none,none,none,none,none,none,none,none,none,some true,some false,some true,some false,some false,some false,some false] 9 _ K.mixed (by kernel_rfl) (by kernel_rfl) (by kernel_rfl) (Ext.refl _) ?_
 simp -implicitDefEqProofs only[↓reduceIte,go_sem,ah,Nat.reduceAdd,Nat.reduceLT,Nat.reduceLeDiff,Nat.reduceEqDiff,eq_self]
 refine ab.ok (hcn _) ?_
 simp -implicitDefEqProofs only[↓reduceIte,go_sem,Nat.reduceLT,Nat.reduceEqDiff,eq_self,hwr]
 refine ab.ok (hd _ (by simp -implicitDefEqProofs only[go_sem,eq_self])) ?_
 by_cases he:e=0
 ·by_cases h0:ns=[]
  ·rw[if_pos (.inr h0)]
   subst h0
   simp -implicitDefEqProofs only[↓reduceIte,go_sem,ah,Nat.reduceAdd,Nat.reduceLT,Nat.reduceLeDiff,Nat.reduceEqDiff,Nat.reduceBEq,reduceCtorEq,eq_self,he,de]
   refine aw.ret ?_
   simp -implicitDefEqProofs only[↓reduceIte,go_sem,Nat.reduceLT,Nat.reduceEqDiff,eq_self,he]
  ·rw[if_neg (fun h=>h.elim (fun h=>h he) h0)]
   have hj:=fun H=>Cp ns L hn hL H
   have hnl:((ns.length:Int)=0)=False:=eq_false (by have:=List.length_pos_iff.2 h0;omega)
   simp -implicitDefEqProofs only[↓reduceIte,go_sem,ah,Nat.reduceAdd,Nat.reduceLT,Nat.reduceLeDiff,Nat.reduceEqDiff,Nat.reduceBEq,reduceCtorEq,eq_self,he,de,hnl]
   refine ab.ok (hj _) ?_
   simp -implicitDefEqProofs only[↓reduceIte,go_sem,Nat.reduceLT,Nat.reduceEqDiff,eq_self]
   refine aw.ret ?_
   simp -implicitDefEqProofs only[↓reduceIte,go_sem,Nat.reduceLT,Nat.reduceEqDiff,eq_self]
 ·rw[if_pos (.inl he)]
  simp -implicitDefEqProofs only[↓reduceIte,go_sem,Nat.reduceAdd,Nat.reduceLT,Nat.reduceEqDiff,Nat.reduceBEq,eq_self,he]
  refine aw.ret ?_
  simp -implicitDefEqProofs only[↓reduceIte,go_sem,Nat.reduceLT,Nat.reduceEqDiff,eq_self]
theorem yf(s:Sg)(H:aa)(hg:eT s.aX (gR (H.length+2) s.kind)=none):
  ag Tryz.prog 21 [.agg s.cs] H (.ok (.bf [.d (.v (.slice none 0 0)),iA 1])) H:=by
 obtain⟨k,w,⟨zr,zn,zmn,zmx⟩,ns,b⟩:=s
 simp only at hg
 unfold Sg.cs
 have hc:=mG k H
 have hE:=IL H
 refine ag.aj (hint:=(fun t=>t==4||t==1000001)) Tryz.func21 (by kernel_rfl) rfl [2,3] (by kernel_rfl) (by decide) (by simp[Tryz.ntmps21]) ?_
 rw[Tryz.ntmps21]
 simp -implicitDefEqProofs only[↓reduceIte,go_sem,Nat.reduceAdd,Nat.reduceLT,Nat.reduceBEq,eq_self]
 have hti:TI Tryz.prog 97=some ((.agg #[.nilFunc,.nilFunc]:Value),2,16):=by kernel_rfl
 refine⟨_,_,ar.eU _ _ 2 97 2 (by decide) (by simp -implicitDefEqProofs only[↓reduceIte,go_sem,Nat.reduceLT,Nat.reduceEqDiff,eq_self]) _,?_⟩
 simp -implicitDefEqProofs only[go_sem]
 refine rT [none,none,some true,none,none,some true,some false,some false,some false,some false,some true] 9 (H.length+1) (.box 97 2 1 1 [.d (.v .nilFunc),.d (.v .nilFunc)]) (H++[.box 30 12 0 1 [iA k,iA w,iA zr,iA zn,iA zmn.kind,iA zmn.i,sA zmn.s,iA zmx.kind,iA zmx.i,sA zmx.s,.d (.list false (cr ns)),.d (.list false (aG b))]]) K.mixed (by kernel_rfl) (by kernel_rfl) (by kernel_rfl) ?_ ?_ ?_
 ·rw[hE];trivial
 ·intro o ho
  simp at ho
 simp -implicitDefEqProofs only[↓reduceIte,go_sem,ah,Nat.reduceAdd,Nat.reduceLT,Nat.reduceLeDiff,Nat.reduceEqDiff,reduceCtorEq,eq_self]
 refine ab.ok (hc _ _) ?_
 simp -implicitDefEqProofs only[↓reduceIte,go_sem,Nat.reduceAdd,Nat.reduceLT,eq_self]
 refine ab.ok (hc _ _) ?_
 simp -implicitDefEqProofs only[↓reduceIte,go_sem,ah,ak,Nat.reduceAdd,Nat.reduceLT,Nat.reduceLeDiff,Nat.reduceEqDiff,Nat.reduceBEq,eq_self,hE,hg,Option.getD_none,Option.isSome_none]
 refine⟨⟨_,_,_,_,97,rfl,rfl,hti,⟨by decide,by kernel_rfl,by kernel_rfl⟩,rfl,rfl,by simp -implicitDefEqProofs only[go_sem,eq_self]⟩,?_⟩
 refine aw.ret ?_
 simp -implicitDefEqProofs only[↓reduceIte,go_sem,Nat.reduceLT,Nat.reduceEqDiff,eq_self]
theorem BK(s:Sg)(hr:s.aM.rows≤1000000)(hn:s.az.length≤1000000)(hb:∀c∈s.body,c<256)(hl:s.body.length≤140737488351232)(H:aa)(hL:(fS s.body ((s.aM.rows:Int)-(aE s.az:Int)) s.kind s.aX).1.length≤1000000000):
  ag Tryz.prog 21 [.agg s.cs] H (.ok (.bf [.d (.list false ((dw s).1.map ai.enc)),iA (dw s).2])) H:=by
 have hg:=pE (H.length+2) s.kind s.aX
 unfold sj at hg
 unfold dw
 have key:∀(f1 f2:FuncId) (c1 c2:List AV),eT s.aX (gR (H.length+2) s.kind)=some (.agg [.fn f1 c1,.fn f2 c2])→
   (∀G:aa,G[H.length+2]?=some (kB s.kind)→ag Tryz.prog f2 ([.d (.list false (aG s.body)),iA ((s.aM.rows:Int)-(aE s.az:Int))]++c2) G (.ok (.bf [.d (.list false ((fS s.body ((s.aM.rows:Int)-(aE s.az:Int)) s.kind s.aX).1.map ai.enc)),iA (fS s.body ((s.aM.rows:Int)-(aE s.az:Int)) s.kind s.aX).2])) G)→
   ag Tryz.prog 21 [.agg s.cs] H (.ok (.bf [.d (.list false ((if(fS s.body ((s.aM.rows:Int)-(aE s.az:Int)) s.kind s.aX).2≠0∨s.az=[]then fS s.body ((s.aM.rows:Int)-(aE s.az:Int)) s.kind s.aX
    else gA s.az (fS s.body ((s.aM.rows:Int)-(aE s.az:Int)) s.kind s.aX).1).1.map ai.enc)),iA (if(fS s.body ((s.aM.rows:Int)-(aE s.az:Int)) s.kind s.aX).2≠0∨s.az=[]then fS s.body ((s.aM.rows:Int)-(aE s.az:Int)) s.kind s.aX
    else gA s.az (fS s.body ((s.aM.rows:Int)-(aE s.az:Int)) s.kind s.aX).1).2])) H:=by
  intro f1 f2 c1 c2 h1 h2
  have h:=xJ s f1 f2 c1 c2 _ _ H hr hn hL h1 h2
  by_cases c:(fS s.body ((s.aM.rows:Int)-(aE s.az:Int)) s.kind s.aX).2≠0∨s.az=[]
  ·rw[if_pos c]at h;rw[if_pos c];exact h
  ·rw[if_neg c]at h;rw[if_neg c];exact h
 by_cases h1:s.aX=1
 ·rw[if_pos h1]at hg
  refine key _ _ _ _ hg fun G hG=>?_
  rw[show fS s.body ((s.aM.rows:Int)-(aE s.az:Int)) s.kind s.aX=_ from if_pos h1]
  exact qT _ _ _ hl hb G _ hG
 by_cases h2:s.aX=2
 ·rw[if_neg h1,if_pos h2]at hg
  refine key _ _ _ _ hg fun G hG=>?_
  rw[show fS s.body ((s.aM.rows:Int)-(aE s.az:Int)) s.kind s.aX=_ from(if_neg h1).trans (if_pos h2)]
  exact uI _ _ _ hl hb G _ hG
 by_cases h3:s.aX=3
 ·rw[if_neg h1,if_neg h2,if_pos h3]at hg
  refine key _ _ _ _ hg fun G hG=>?_
  rw[show fS s.body ((s.aM.rows:Int)-(aE s.az:Int)) s.kind s.aX=_ from(if_neg h1).trans ((if_neg h2).trans (if_pos h3))]
  exact tn _ _ _ hl hb G _ hG
 by_cases h4:s.aX=4∧s.kind=1
 ·rw[if_neg h1,if_neg h2,if_neg h3,if_pos h4]at hg
  refine key _ _ _ _ hg fun G hG=>?_
  rw[show fS s.body ((s.aM.rows:Int)-(aE s.az:Int)) s.kind s.aX=_ from(if_neg h1).trans ((if_neg h2).trans ((if_neg h3).trans (if_pos h4)))]
  have h:=Fo s.body ((s.aM.rows:Int)-(aE s.az:Int)) false hl hb G
  simp only[List.append_nil]
  generalize ry s.body ((s.aM.rows:Int)-(aE s.az:Int))=q at*
  obtain⟨o,e⟩:=q
  cases o with
  |none=>exact ag.bY h (.cons .nil (.cons (.refl _) .nil))
  |some l=>exact h
 ·rw[if_neg h1,if_neg h2,if_neg h3,if_neg h4]at hg
  have h:=yf s H hg
  have e:fS s.body ((s.aM.rows:Int)-(aE s.az:Int)) s.kind s.aX=([],1):=(if_neg h1).trans ((if_neg h2).trans ((if_neg h3).trans (if_neg h4)))
  rw[e,if_pos (.inl (by decide))]
  exact ag.bY h (.cons .nil (.cons (.refl _) .nil))
theorem u5:∀(k acc n:Nat) (r:List Nat),k≤9→acc+n* 128^(9-k)<18446744073709551616→(9≤k∨n≠0)→dh (k+1) acc (a9 n++r)=(.ok (acc+n* 128^(9-k)),r):=by
 intro k
 induction k with
 |zero=>
  intro acc n r hk h hn
  have:n≤1:=by
   rcases Nat.lt_or_ge n 2 with h'|h'
   ·omega
   ·have:2* 128^9≤n* 128^9:=Nat.mul_le_mul_right _ h'
    simp only[Nat.sub_zero]at h
    omega
  rw[cd (by omega)]
  have hb:¬((0=0∧1<n)∨(0<9∧n=0)):=by omega
  rw[List.singleton_append]
  unfold dh
  rw[if_neg hb,if_pos (show n<128 by omega),Nat.mod_eq_of_lt (show n<128 by omega)]
 |succ k ih=>
  intro acc n r hk h hn
  by_cases hlt:n<128
  ·rw[cd hlt]
   have hb:¬((k+1=0∧1<n)∨(k+1<9∧n=0)):=by omega
   rw[List.singleton_append]
   unfold dh
   rw[if_neg hb,if_pos hlt,Nat.mod_eq_of_lt hlt]
  ·rw[j9 hlt]
   have hb:¬((k+1=0∧1<n%128+128)∨(k+1<9∧n%128+128=0)):=by omega
   have hc:(n%128+128)%128=n%128:=by omega
   rw[List.cons_append]
   unfold dh
   rw[if_neg hb,if_neg (show ¬n%128+128<128 by omega),hc]
   have e:9-k=(9-(k+1))+1:=by omega
   have hp:n/128* 128^(9-k)=n/128* 128* 128^(9-(k+1)):=by rw[e,Nat.pow_succ,Nat.mul_comm (128^_) 128,Nat.mul_assoc]
   have hs:acc+n%128* 128^(9-(k+1))+n/128* 128^(9-k)=acc+n* 128^(9-(k+1)):=by
    rw[hp,Nat.add_assoc,←Nat.add_mul]
    congr 2
    omega
   rw[ih _ _ r (by omega) (by rw[hs];exact h) (.inr (by omega)),hs]
theorem fc(n:Nat)(h:n<18446744073709551616)(r:List Nat):aJ (a9 n++r)=(n,(a9 n).length,0):=by
 have:=u5 9 0 n r (Nat.le_refl _) (by simpa using h) (.inl (Nat.le_refl _))
 unfold aJ
 rw[this]
 simp
theorem pT:∀(k acc:Nat) (b r:List Nat) (N:Nat),(∀c∈b,c<256)→k≤9→dh (k+1) acc b=(.ok N,r)→∃n,b=a9 n++r∧N=acc+n* 128^(9-k)∧(9≤k∨n≠0):=by
 intro k
 induction k with
 |zero=>
  intro acc b r N hb hk h
  cases b with
  |nil=>simp[dh]at h
  |cons c b=>
   simp only[dh]at h
   split at h
   ·simp at h
   ·split at h
    ·rename_i h1 h2
     simp only[Prod.mk.injEq,Except.ok.injEq]at h
     obtain⟨rfl,rfl⟩:=h
     refine⟨c,by rw[cd h2];rfl,by rw[Nat.mod_eq_of_lt h2],.inr (by omega)⟩
    ·simp at h
 |succ k ih=>
  intro acc b r N hb hk h
  cases b with
  |nil=>simp[dh]at h
  |cons c b=>
   unfold dh at h
   split at h
   ·simp at h
   ·split at h
    ·rename_i h1 h2
     simp only[Prod.mk.injEq,Except.ok.injEq]at h
     obtain⟨rfl,rfl⟩:=h
     refine⟨c,by rw[cd h2];rfl,by rw[Nat.mod_eq_of_lt h2],?_⟩
     omega
    ·rename_i h1 h2
     obtain⟨m,rfl,hN,hm⟩:=ih _ b r N (fun x hx=>hb x (by simp[hx])) (by omega) h
     have hc:=hb c (by simp)
     have hm0:m≠0:=by omega
     refine⟨c%128+128* m,?_,?_,.inr (by omega)⟩
     ·rw[j9 (n:=c%128+128* m) (by omega),show(c%128+128* m)%128+128=c by omega,show(c%128+128* m)/128=m by omega];rfl
     ·rw[hN,show 9-k=(9-(k+1))+1 by omega,Nat.pow_succ,Nat.add_mul,Nat.add_assoc]
      congr 2
      rw[Nat.mul_comm (128^_) 128,←Nat.mul_assoc,Nat.mul_comm m 128]
theorem pn:∀(k acc:Nat) (b r:List Nat) (e:Int),dh k acc b=(.error e,r)→e≠0
 |0,_,_,_,_,h=>by simp only[dh,Prod.mk.injEq,Except.error.injEq]at h;omega
 |_+1,_,[],_,_,h=>by simp only[dh,Prod.mk.injEq,Except.error.injEq]at h;omega
 |k+1,acc,c::b,r,e,h=>by
  unfold dh at h
  split at h
  ·simp only[Prod.mk.injEq,Except.error.injEq]at h;omega
  ·split at h
   ·simp at h
   ·exact pn k _ b r e h
theorem gT{b:List Nat}{n k:Nat}(hb:∀c∈b,c<256)(h:aJ b=(n,k,0)):k=(a9 n).length∧b=a9 n++b.drop k:=by
 unfold aJ at h
 split at h
 ·rename_i N r hn
  obtain⟨m,rfl,hN,_⟩:=pT 9 0 b r N hb (Nat.le_refl _) hn
  simp only[Prod.mk.injEq]at h
  obtain⟨rfl,rfl,_⟩:=h
  have:N=m:=by simpa using hN
  subst this
  refine⟨by simp,by simp⟩
 ·rename_i e r hn
  simp only[Prod.mk.injEq]at h
  exact absurd h.2.2 (pn _ _ _ _ _ hn)
theorem fo:∀(l:List Bool) (j:Nat),(byteOf l).testBit j=l.getD j false
 |[],j=>by simp[byteOf]
 |b::r,0=>by
  rw[Nat.testBit_zero]
  simp only[byteOf,List.getD_cons_zero]
  cases b<;>simp<;>omega
 |b::r,j+1=>by
  rw[Nat.testBit_succ]
  have:(byteOf (b::r))/2=byteOf r:=by simp only[byteOf];cases b<;>simp<;>omega
  rw[this,fo r j,List.getD_cons_succ]
theorem tV(l:List Bool):cN (byteOf l) l.length=l:=by
 apply List.ext_getElem
 ·rw[dG]
 ·intro i h1 h2
  simp only[cN,List.getElem_map,List.getElem_range,fo]
  simp[List.getD,h2]
theorem mC(n w:Nat)(h:n<2^w):byteOf (cN n w)=n:=by
 apply Nat.eq_of_testBit_eq
 intro j
 rw[fo]
 by_cases hj:j<w
 ·simp[List.getD,cN,hj]
 ·have:n.testBit j=false:=Nat.testBit_lt_two_pow (Nat.lt_of_lt_of_le h (Nat.pow_le_pow_right (by decide) (by omega)))
  simp[List.getD,cN,hj,this]
theorem py(l:List Bool):∀m:Nat,byteOf (l++List.replicate m false)=byteOf l:=by
 intro m
 apply Nat.eq_of_testBit_eq
 intro j
 rw[fo,fo]
 simp only[List.getD]
 by_cases hj:j<l.length
 ·rw[List.getElem?_append_left hj]
 ·rw[List.getElem?_append_right (by omega),List.getElem?_eq_none (by omega:l.length≤j),List.getElem?_replicate]
  split<;>rfl
theorem n5:∀l:List Bool,byteOf l=0→l=List.replicate l.length false
 |[],_=>rfl
 |b::r,h=>by
  have hb:b=false:=by
   cases b
   ·rfl
   ·simp only[byteOf,Bool.toNat_true]at h;omega
  have hr:byteOf r=0:=by simp only[byteOf]at h;omega
  rw[List.length_cons,List.replicate_succ,hb,←n5 r hr]
theorem yh(L:List Bool):c9 (bW L)=L++List.replicate (8* ((L.length+7)/8)-L.length) false:=by
 have hlen:(c9 (bW L)).length=8* ((L.length+7)/8):=by rw[iM,cx]
 apply List.ext_getElem
 ·rw[hlen,List.length_append,List.length_replicate];omega
 ·intro i h1 h2
  rw[hlen]at h1
  have hq:i/8<(L.length+7)/8:=by omega
  have hp:(bW L)[i/8]?=some (er L (i/8)):=by simp[bW,hq]
  have h3:=mV (bW L) i _ hp
  rw[List.getElem?_eq_getElem (by rw[hlen];exact h1)]at h3
  rw[Option.some.inj h3]
  unfold er
  rw[fo]
  have h8:i%8<8:=Nat.mod_lt _ (by decide)
  simp only[List.getD]
  rw[List.getElem?_take_of_lt h8,List.getElem?_drop,show 8* (i/8)+i%8=i by omega]
  by_cases hi:i<L.length
  ·rw[List.getElem_append_left hi,List.getElem?_eq_getElem hi];rfl
  ·rw[List.getElem_append_right (by omega),List.getElem?_eq_none (by omega:L.length≤i)]
   simp
theorem pP:∀(S:List Nat) (w k:Nat) (x:Nat),S[k]?=some x→((dm S w).drop (k* w)).take w=cN x w
 |[],w,k,x,h=>by simp at h
 |y::S,w,0,x,h=>by
  obtain rfl:y=x:=by simpa using h
  have e:dm (y::S) w=cN y w++dm S w:=rfl
  rw[e,Nat.zero_mul,List.drop_zero,List.take_append_of_le_length (by rw[dG];exact Nat.le_refl _),List.take_of_length_le (by rw[dG];exact Nat.le_refl _)]
 |y::S,w,k+1,x,h=>by
  have e:dm (y::S) w=cN y w++dm S w:=rfl
  rw[e,Nat.add_mul,Nat.one_mul,Nat.add_comm,←List.drop_drop,List.drop_left' (dG y w)]
  exact pP S w k x h
theorem kC(S:List Nat)(w:Nat)(h:∀n∈S,n<2^w):bu (cI S w) S.length w=S∧bG (cI S w) S.length w=0:=by
 have hL:=en S w
 have hB:=yh (dm S w)
 have hpl:(cI S w).length=((dm S w).length+7)/8:=cx _
 constructor
 ·apply List.ext_getElem
  ·rw[cW]
  ·intro k h1 h2
   have hx:=List.getElem?_eq_getElem h2
   have hlt:=h _ (List.getElem_mem h2)
   simp only[bu,List.getElem_map,List.getElem_range,vZ]
   unfold cI
   rw[hB]
   have hk:k* w+w≤(dm S w).length:=by rw[hL,←Nat.succ_mul];exact Nat.mul_le_mul_right _ h2
   rw[List.drop_append_of_le_length (by omega),List.take_append_of_le_length (by rw[List.length_drop];omega),pP S w k _ hx,mC _ _ hlt]
 ·unfold bG
  rw[if_neg (by omega),if_neg (by omega)]
  unfold cI
  rw[hB,List.drop_append_of_le_length (by omega),List.drop_of_length_le (by omega),py]
  rfl
theorem D0(b:List Nat)(i c:Nat)(h:b[i]?=some c):((c9 b).drop (8* i)).take 8=cN c 8:=by
 have:=pP b 8 i c h
 rw[Nat.mul_comm]
 exact this
theorem nZ(b:List Nat)(n w:Nat)(hb:∀c∈b,c<256)(h:bG b n w=0):cI (bu b n w) w=b:=by
 unfold bG at h
 split at h
 ·simp at h
 rename_i h1
 split at h
 ·simp at h
 rename_i h2
 split at h
 ·rename_i h3
  have hz:=n5 _ h3
  have hlen:=iM b
  have hU:∀m,m≤n→dm (bu b m w) w=(c9 b).take (m* w):=by
   intro m
   induction m with
   |zero=>intro _;simp[bu,dm]
   |succ m ih=>
    intro hm
    have hmw:(m+1)* w≤n* w:=Nat.mul_le_mul_right _ hm
    rw[l7,oZ,ih (by omega),Nat.succ_mul,List.take_add]
    congr 1
    unfold vZ
    have hl:(((c9 b).drop (m* w)).take w).length=w:=by
     rw[Nat.succ_mul]at hmw
     rw[List.length_take,List.length_drop];omega
    have:=tV (((c9 b).drop (m* w)).take w)
    rw[hl]at this
    exact this
  have hB:c9 b=dm (bu b n w) w++List.replicate ((c9 b).drop (n* w)).length false:=by
   rw[hU n (Nat.le_refl _),←hz,List.take_append_drop]
  have hLl:(dm (bu b n w) w).length=n* w:=by rw[en,cW]
  apply List.ext_getElem
  ·rw[cI,cx,hLl];omega
  ·intro i h4 h5
   have hx:=List.getElem?_eq_getElem h5
   have hlt:=hb _ (List.getElem_mem h5)
   have e8:=D0 b i _ hx
   rw[hB]at e8
   simp only[cI,bW,List.getElem_map,List.getElem_range,er]
   rw[←mC b[i] 8 (by omega),←e8]
   rw[List.drop_append,List.take_append,List.drop_replicate,List.take_replicate,py]
 ·simp at h
theorem tq(n:Int)(h:dF n):ew (fU n)=n:=by
 obtain⟨h1,h2⟩:=h
 unfold fU ew
 by_cases h0:0≤n
 ·rw[if_pos h0,if_neg (by omega)];omega
 ·rw[if_neg h0,if_pos (by omega)];omega
theorem mD(n:Nat)(h:n<18446744073709551616):dF (ew n):=by
 unfold ew dF
 split<;>omega
theorem tk(n:Nat)(h:n<18446744073709551616):fU (ew n)=n:=by
 unfold ew fU
 split
 ·rw[if_neg (by omega)];omega
 ·rw[if_pos (by omega)];omega
theorem ja(n:Int):∃q:Int,IntKind.i64.wrap n=n+q* 18446744073709551616:=by
 have h1:=Int.emod_add_mul_ediv n 18446744073709551616
 simp only[IntKind.wrap,IntKind.signed,IntKind.bits]
 simp only[show((2:Int)^64)=18446744073709551616 from rfl,show((2:Int)^(64-1))=9223372036854775808 from rfl]
 by_cases h:n%18446744073709551616≥9223372036854775808
 ·refine⟨-(n/18446744073709551616)-1,?_⟩
  simp only[h,decide_true,Bool.true_and,if_true]
  omega
 ·refine⟨-(n/18446744073709551616),?_⟩
  simp only[h,decide_false,Bool.and_false,Bool.false_eq_true,if_false]
  omega
theorem nV(u:Nat):db (db u)=db u:=by
 unfold db
 by_cases h:EE u=true
 ·rw[if_pos h];decide
 ·rw[if_neg h,if_neg h]
theorem nF(u:Nat)(h:u<18446744073709551616):dO (eo u)=db u:=by
 have hl:=kQ u h
 have hi:=nV u
 unfold eo
 generalize db u=c at*
 unfold dO
 by_cases h1:9223372036854775808≤c
 ·rw[if_pos h1,if_neg (by omega),show 18446744073709551615-(18446744073709551615-c)=c by omega,hi]
 ·rw[if_neg h1,if_pos (by omega),show c+9223372036854775808-9223372036854775808=c by omega,hi]
theorem sW{i:Int}(h:dF i):CD (jk i)=i:=by
 obtain⟨h1,h2⟩:=h
 unfold CD
 obtain⟨q,hq⟩:=ja ((jk i:Nat):Int)
 have hr:=dy ((jk i:Nat):Int)
 have ht:((jk i:Nat):Int)=i%18446744073709551616:=by unfold jk;omega
 omega
theorem zw{n:Nat}(h:n<18446744073709551616):jk (CD n)=n:=by
 unfold CD
 obtain⟨q,hq⟩:=ja (n:Int)
 rw[hq]
 unfold jk
 omega
theorem Fu(n:Nat):dF (CD n):=dy _
theorem DC(n:Nat)(hn:n<18446744073709551616):∀k,k≤8→kv ((ph n).take k)=n/256^(8-k):=by
 intro k
 induction k with
 |zero=>intro _;rw[List.take_zero];exact(Nat.div_eq_of_lt hn).symm
 |succ k ih=>
  intro hk
  rw[va n k (by omega),jf,ih (by omega),show 8-k=(7-k)+1 by omega,show 8-(k+1)=7-k by omega,Nat.pow_succ,←Nat.div_div_eq_div_mul]
  omega
theorem zD(n:Nat)(hn:n<18446744073709551616):kv (ph n)=n:=by
 have h:=DC n hn 8 (Nat.le_refl _)
 rw[List.take_of_length_le (by rw[im];exact Nat.le_refl _)]at h
 rw[h];simp
theorem EY:∀(k:Nat) (l m:List Nat),l.length=k→m.length=k→b6 l→b6 m→kv l=kv m→l=m:=by
 intro k
 induction k with
 |zero=>intro l m h1 h2 _ _ _;rw[List.length_eq_zero_iff.1 h1,List.length_eq_zero_iff.1 h2]
 |succ k ih=>
  intro l m h1 h2 b1 b2 h
  have n1:l≠[]:=fun e=>by rw[e]at h1;simp at h1
  have n2:m≠[]:=fun e=>by rw[e]at h2;simp at h2
  rw[←List.dropLast_concat_getLast n1,←List.dropLast_concat_getLast n2,jf,jf]at h
  have c1:=b1 _ (List.getLast_mem n1)
  have c2:=b2 _ (List.getLast_mem n2)
  have e1:=ih l.dropLast m.dropLast (by simp[h1]) (by simp[h2]) (fun c hc=>b1 c (List.dropLast_subset l hc)) (fun c hc=>b2 c (List.dropLast_subset m hc)) (by omega)
  rw[←List.dropLast_concat_getLast n1,←List.dropLast_concat_getLast n2,e1,show l.getLast n1=m.getLast n2 by omega]
theorem vW(n:Nat):b6 (ph n):=fun c hc=>by
 unfold ph at hc
 obtain⟨i,_,rfl⟩:=List.mem_map.1 hc
 exact Nat.mod_lt _ (by decide)
theorem FF{l:List Nat}(hl:l.length=8)(hb:b6 l):ph (kv l)=l:=by
 have hlt:kv l<18446744073709551616:=sy 8 l hl hb
 exact EY 8 _ _ (im _) hl (vW _) hb (zD _ hlt)
theorem wP(s:ByteArray):nD (fb s)=s:=by
 apply toList_inj
 rw[iN,fb,List.map_map,ByteArray.toList_eq]
 conv=>rhs;rw[←List.map_id s.data.toList]
 apply List.map_congr_left
 intro x _
 simp
theorem kg{t:List Nat}(h:b6 t):fb (nD t)=t:=by
 have hl:=iN t
 rw[ByteArray.toList_eq]at hl
 unfold fb
 rw[hl,List.map_map]
 conv=>rhs;rw[←List.map_id t]
 apply List.map_congr_left
 intro x hx
 have:=h x hx
 simp[Nat.mod_eq_of_lt this]
theorem Cu(n:Nat)(h:n<18446744073709551616)(r:List Nat):dh 10 0 (a9 n++r)=(.ok n,r):=by
 have:=u5 9 0 n r (Nat.le_refl _) (by simpa using h) (.inl (Nat.le_refl _))
 simpa using this
theorem yL(s:ByteArray)(hs:s.size≤1024)(r:List Nat):cH (lk s++r) 1024=(fb s,r,0):=by
 unfold cH lk
 have hl:=gU s
 rw[List.append_assoc,Cu _ (by omega)]
 simp only
 rw[if_neg (by omega),if_neg (by rw[List.length_append];omega),←hl,List.take_left,List.drop_left]
theorem AO{b t r:List Nat}(hb:b6 b)(h:cH b 1024=(t,r,0)):b=lk (nD t)++r∧t.length≤1024∧b6 t:=by
 unfold cH at h
 split at h
 ·rename_i n rr hn
  obtain⟨m,hm,he,_⟩:=pT 9 0 b rr n hb (Nat.le_refl _) hn
  have he':n=m:=by simpa using he
  subst he'
  split at h
  ·simp at h
  split at h
  ·simp at h
  rename_i h1 h2
  simp only[Prod.mk.injEq,and_true]at h
  obtain⟨rfl,rfl⟩:=h
  have hrb:b6 rr:=fun c hc=>hb c (by rw[hm];exact List.mem_append_right _ hc)
  have htb:b6 (rr.take n):=fun c hc=>hrb c (List.mem_of_mem_take hc)
  have hsz:(nD (rr.take n)).size=n:=by
   rw[←gU,kg htb,List.length_take];omega
  refine⟨?_,by rw[List.length_take];omega,htb⟩
  unfold lk
  rw[hsz,kg htb,List.append_assoc,List.take_append_drop]
  exact hm
 ·rename_i e rr hn
  simp only[Prod.mk.injEq]at h
  exact absurd h.2.2 (pn 10 0 b rr e hn)
theorem fl(k:Int):bI k=true↔k=1∨k=2∨k=3:=by unfold bI;simp;omega
theorem kj{v:ai}(h:v.kind=1):cT v=true↔v.s=dA:=by
 unfold cT
 rw[if_neg (by omega),if_pos h,decide_eq_true_eq,fW]
theorem mg{v:ai}(h:v.kind=2):cT v=true↔jk v.i=db (jk v.i)∧v.s=dA:=by
 unfold cT
 rw[if_pos h,Bool.and_eq_true,decide_eq_true_eq,decide_eq_true_eq,fW]
theorem jx{v:ai}(h:v.kind=3):cT v=true↔v.i=0∧v.s.size≤1024:=by
 unfold cT
 rw[if_neg (by omega),if_neg (by omega),if_pos h,Bool.and_eq_true,decide_eq_true_eq,decide_eq_true_eq]
theorem jF{a b:ai}(h1:a.kind=b.kind)(h2:a.i=b.i)(h3:a.s=b.s):a=b:=by
 cases a;cases b;simp only at h1 h2 h3;subst h1 h2 h3;rfl
theorem oN{v:ai}(r:List Nat)(hi:dF v.i)(hm:cT v=true)(hk:bI v.kind=true):dz (cS v++r) v.kind=(v,r,0):=by
 rcases(fl _).1 hk with h|h|h
 ·have hs:=(kj h).1 hm
  unfold dz cS
  rw[h]
  simp only[if_true,show((1:Int)=0)=False from by simp,if_false]
  rw[fc _ (gd hi.1 hi.2)]
  simp only[if_true]
  rw[tq _ hi,List.drop_left]
  rw[show ca v.i=v from jF h.symm rfl hs.symm]
 ·obtain⟨hc,hs⟩:=(mg h).1 hm
  have hu:=km v.i
  have hk:=z8 _ hu
  have hbl:=im (eo (jk v.i))
  have ht:(ph (eo (jk v.i))++r).take 8=ph (eo (jk v.i)):=List.take_left' hbl
  have hd:(ph (eo (jk v.i))++r).drop 8=r:=List.drop_left' hbl
  unfold dz cS
  rw[h]
  simp only[if_true,show((2:Int)=0)=False from by simp,show((2:Int)=1)=False from by simp,if_false]
  unfold iw
  rw[if_neg (by rw[List.length_append,hbl];omega),ht,hd,zD _ hk,nF _ hu,←hc,if_pos rfl,sW hi]
  rw[show(⟨2,v.i,dA⟩:ai)=v from jF h.symm rfl hs.symm]
 ·obtain⟨h0,hsz⟩:=(jx h).1 hm
  unfold dz cS
  rw[h]
  simp only[if_true,show((3:Int)=0)=False from by simp,show((3:Int)=1)=False from by simp,show((3:Int)=2)=False from by simp,if_false]
  rw[yL v.s hsz]
  simp only[if_true]
  rw[wP,show(⟨3,0,v.s⟩:ai)=v from jF h.symm h0.symm rfl]
theorem wQ{b r:List Nat}{k:Int}{v:ai}(hb:b6 b)(hk:bI k=true)(h:dz b k=(v,r,0)):b=cS v++r∧cT v=true∧v.kind=k∧dF v.i:=by
 rcases(fl _).1 hk with rfl|rfl|rfl
 ·unfold dz at h
  rw[if_neg (by decide),if_pos rfl]at h
  split at h
  ·rename_i he
   simp only[Prod.mk.injEq,and_true]at h
   obtain⟨rfl,rfl⟩:=h
   rcases hg:aJ b with⟨n,j,e⟩
   rw[hg]at he
   simp only at he
   subst he
   have hn:n<18446744073709551616:=by have:=jE b;rw[hg]at this;exact this
   obtain⟨hj,hbe⟩:=gT hb hg
   refine⟨?_,vf _,rfl,mD n hn⟩
   rw[show cS (ca (ew n))=a9 (fU (ew n))from if_pos rfl,tk n hn]
   exact hbe
  ·rename_i he
   simp only[Prod.mk.injEq]at h
   exact absurd h.2.2 he
 ·unfold dz at h
  rw[if_neg (by decide),if_neg (by decide),if_pos rfl]at h
  unfold iw at h
  split at h
  ·simp at h
  rename_i h8
  split at h
  ·rename_i hkey
   simp only[Prod.mk.injEq,and_true]at h
   obtain⟨rfl,rfl⟩:=h
   have h8l:(b.take 8).length=8:=by rw[List.length_take];omega
   have h8b:b6 (b.take 8):=fun c hc=>hb c (List.mem_of_mem_take hc)
   have hlt:kv (b.take 8)<18446744073709551616:=sy 8 _ h8l h8b
   have hul:=rK hlt
   have hcl:dO (kv (b.take 8))=db (dO (kv (b.take 8))):=by
    unfold dO
    split<;>rw[nV]
   refine⟨?_,(mg rfl).2 ⟨?_,rfl⟩,rfl,Fu _⟩
   ·rw[show cS ⟨2,CD (dO (kv (b.take 8))),dA⟩=ph (eo (jk (CD (dO (kv (b.take 8))))))from rfl,zw hul,hkey,FF h8l h8b,List.take_append_drop]
   ·show jk (CD _)=db (jk (CD _))
    rw[zw hul]
    exact hcl
  ·simp at h
 ·unfold dz at h
  rw[if_neg (by decide),if_neg (by decide),if_neg (by decide),if_pos rfl]at h
  split at h
  ·rename_i he
   simp only[Prod.mk.injEq,and_true]at h
   obtain⟨rfl,rfl⟩:=h
   rcases ht:cH b 1024 with⟨t,rr,e⟩
   rw[ht]at he
   simp only at he
   subst he
   obtain⟨h1,h2,h3⟩:=AO hb ht
   refine⟨h1,(jx rfl).2 ⟨rfl,?_⟩,rfl,by unfold dF;simp⟩
   show(nD t).size≤1024
   rw[←gU,kg h3]
   exact h2
  ·rename_i he
   simp only[Prod.mk.injEq]at h
   exact absurd h.2.2 he
theorem Dn{a b:ai}(ha:cT a=true)(hb:cT b=true)(hk:a.kind=b.kind)(hkk:bI a.kind=true)(ia:dF a.i)(ib:dF b.i)(h:aO a b=0):a=b:=by
 unfold aO at h
 rw[if_neg (by simpa using hk)]at h
 rcases(fl _).1 hkk with k|k|k
 ·rw[if_pos k]at h
  exact jF hk (iV.1 h) (((kj k).1 ha).trans ((kj (hk▸k)).1 hb).symm)
 ·rw[if_neg (by omega),if_pos k]at h
  obtain⟨c1,s1⟩:=(mg k).1 ha
  obtain⟨c2,s2⟩:=(mg (hk▸k)).1 hb
  have hkey:eo (jk a.i)=eo (jk b.i):=by
   unfold An gm at h
   by_cases h1:eo (jk a.i)<eo (jk b.i)
   ·simp[h1]at h
   ·by_cases h2:eo (jk b.i)<eo (jk a.i)
    ·simp[h1,h2]at h
    ·omega
  have e:jk a.i=jk b.i:=by
   rw[c1,c2,←nF _ (km a.i),←nF _ (km b.i),hkey]
  exact jF hk (by rw[←sW ia,←sW ib,e]) (s1.trans s2.symm)
 ·rw[if_neg (by omega),if_neg (by omega),if_pos k]at h
  exact jF hk ((((jx k).1 ha).1).trans (((jx (hk▸k)).1 hb).1).symm) (AS.1 h)
def fX(k:Int)(v:ai):Prop:=cT v=true∧v.kind=k∧dF v.i
theorem nm{k:Int}(hk:bI k=true):∀(W:List ai) (r:List Nat),(∀v∈W,fX k v)→aR k W.length (aW W++r)=(W,r,0)
 |[],r,_=>rfl
 |v::W,r,h=>by
  obtain⟨h1,h2,h3⟩:=h v (by simp)
  have e:aW (v::W)++r=cS v++(aW W++r):=by simp[aW]
  have ho:=oN (v:=v) (aW W++r) h3 h1 (by rw[h2];exact hk)
  rw[h2]at ho
  rw[e,List.length_cons]
  unfold aR
  rw[ho]
  simp only[if_true]
  rw[nm hk W r fun x hx=>h x (by simp[hx])]
  simp
theorem lQ{k:Int}(hk:bI k=true):∀(n:Nat) (b:List Nat) (W:List ai) (r:List Nat),b6 b→aR k n b=(W,r,0)→b=aW W++r∧∀v∈W,fX k v
 |0,b,W,r,_,h=>by
  simp only[aR,Prod.mk.injEq,and_true]at h
  obtain⟨rfl,rfl⟩:=h
  exact⟨by simp[aW],by simp⟩
 |n+1,b,W,r,hb,h=>by
  unfold aR at h
  rcases hv:dz b k with⟨v,c,e⟩
  rw[hv]at h
  simp only at h
  split at h
  ·rename_i he
   subst he
   obtain⟨h1,h2,h3,h4⟩:=wQ hb hk hv
   rcases hr:aR k n c with⟨W',r',f⟩
   rw[hr]at h
   simp only at h
   split at h
   ·rename_i hf
    subst hf
    simp only[Prod.mk.injEq,and_true]at h
    obtain⟨rfl,rfl⟩:=h
    have hc:b6 c:=fun x hx=>hb x (by rw[h1];exact List.mem_append_right _ hx)
    obtain⟨g1,g2⟩:=lQ hk n c W' r' hc hr
    refine⟨?_,?_⟩
    ·rw[h1,g1];simp[aW]
    ·intro x hx
     rcases List.mem_cons.1 hx with rfl|hx
     ·exact⟨h2,h3,h4⟩
     ·exact g2 x hx
   ·rename_i hf
    simp only[Prod.mk.injEq]at h
    exact absurd h.2.2 hf
  ·rename_i he
   simp only[Prod.mk.injEq]at h
   exact absurd h.2.2 he
theorem cf(l:List ai)(k:Int):aL l k=0↔bI k=true∧l.length≤4096∧∀v∈l,v.kind=k∧cT v=true:=by
 constructor
 ·intro h
  refine⟨?_,dX h,fun v hv=>⟨?_,eF h v hv⟩⟩
  ·unfold aL at h
   cases hk:bI k with
   |true=>rfl
   |false=>rw[hk]at h;simp at h
  ·unfold aL at h
   split at h
   ·simp at h
   split at h
   ·simp at h
   split at h
   ·simp at h
   ·rename_i h3
    have h3':l.any (fun v=> !decide (v.kind=k))=false:=by simpa using h3
    simpa using List.any_eq_false.1 h3' v hv
 ·rintro⟨h1,h2,h3⟩
  unfold aL
  rw[h1,if_neg (by simp),if_neg (by omega),if_neg,if_neg]
  ·rw[Bool.not_eq_true,List.any_eq_false]
   intro v hv
   simp[(h3 v hv).2]
  ·rw[Bool.not_eq_true,List.any_eq_false]
   intro v hv
   simp[(h3 v hv).1]
theorem lv.lt_trans{α:Type}{c:α→α→Int}(h:lv c){x y z:α}(h1:c x y<0)(h2:c y z<0):c x z<0:=by
 have h3:=h.le_trans (x:=x) (y:=y) (z:=z) (by omega) (by omega)
 rcases Int.lt_or_eq_of_le h3 with h4|h4
 ·exact h4
 ·have h5:=(h.F0 (z:=y) h4).1 h1
  have h6:=(h.ff y z).1 h2
  omega
theorem j6.JG{W:List ai}(h:j6 W):mT W:=by
 unfold mT
 rw[List.pairwise_iff_getElem]
 have key:∀(d i:Nat) (x y:ai),W[i]?=some x→W[i+d+1]?=some y→aO x y<0:=by
  intro d
  induction d with
  |zero=>intro i x y hx hy;exact h i x y hx hy
  |succ d ih=>
   intro i x y hx hy
   have hlt:=(List.getElem?_eq_some_iff.1 hy).1
   have hz:=List.getElem?_eq_getElem (show i+d+1<W.length by omega)
   exact bg.lt_trans (ih i x _ hx hz) (h (i+d+1) _ y hz (by rw[←hy,show i+d+1+1=i+(d+1)+1 by omega]))
 intro i j h1 h2 hij
 have:=key (j-i-1) i _ _ (List.getElem?_eq_getElem h1) (by rw[show i+(j-i-1)+1=j by omega];exact List.getElem?_eq_getElem h2)
 simpa[oS]using this
theorem mT.IN{W:List ai}(h:mT W):j6 W:=fun i x y hx hy=>(h.get hx hy).2 (by omega)
theorem mT.zero{W:List ai}(h:mT W){i j:Nat}{x y:ai}(hx:W[i]?=some x)(hy:W[j]?=some y)(hc:aO x y=0):i=j:=by
 have h1:=h.get hx hy
 have h2:=h.get hy hx
 have h3:=(bg.zero x y).1 hc
 omega
theorem wO:∀{A B:List ai},mT A→mT B→(∀x,x∈A↔x∈B)→A=B
 |[],[],_,_,_=>rfl
 |[],b::B,_,_,h=>by have:=(h b).2 (by simp);simp at this
 |a::A,[],_,_,h=>by have:=(h a).1 (by simp);simp at this
 |a::A,b::B,hA,hB,h=>by
  obtain⟨a1,a2⟩:=List.pairwise_cons.1 hA
  obtain⟨b1,b2⟩:=List.pairwise_cons.1 hB
  have F4:∀x,oS aO x x=true→False:=fun x hx=>by
   have:=bg.self x
   simp[oS,this]at hx
  have hab:a=b:=by
   rcases List.mem_cons.1 ((h a).1 (by simp))with e|ha
   ·exact e
   rcases List.mem_cons.1 ((h b).2 (by simp))with e|hb
   ·exact e.symm
   have g1:=b1 a ha
   have g2:=a1 b hb
   simp only[oS,decide_eq_true_eq]at g1 g2
   have:=(bg.ff a b).1 g2
   omega
  subst hab
  rw[wO a2 b2 fun x=>?_]
  constructor
  ·intro hx
   rcases List.mem_cons.1 ((h x).1 (by simp[hx]))with rfl|hx'
   ·exact absurd (a1 _ hx) (fun e=>F4 _ e)
   ·exact hx'
  ·intro hx
   rcases List.mem_cons.1 ((h x).2 (by simp[hx]))with rfl|hx'
   ·exact absurd (b1 _ hx) (fun e=>F4 _ e)
   ·exact hx'
theorem rp:∀{A B:List Nat},A.Nodup→(∀x∈A,x∈B)→A.length≤B.length
 |[],B,_,_=>by simp
 |a::A,B,hA,h=>by
  obtain⟨h1,h2⟩:=List.nodup_cons.1 hA
  have ha:=h a (by simp)
  have:=rp (B:=B.erase a) h2 fun x hx=>by
   have hne:x≠a:=fun e=>h1 (e▸hx)
   exact(List.mem_erase_of_ne hne).2 (h x (by simp[hx]))
  rw[List.length_erase_of_mem ha]at this
  have hp:0<B.length:=List.length_pos_of_mem ha
  simp only[List.length_cons]
  omega
theorem rW{C:List Nat}{n:Nat}:iq C n=true↔(∀c∈C,c<n)∧∀i,i<n→i∈C:=by
 constructor
 ·intro h
  have hlt:=vm h
  refine⟨hlt,fun i hi=>?_⟩
  unfold iq at h
  rw[Bool.and_eq_true,decide_eq_true_eq]at h
  refine Classical.byContradiction fun hn=>?_
  have hT:i∉ep C:=fun e=>hn ((fp C i).1 e)
  have:=ka (m:=n) (seen:=i::ep C) (List.nodup_cons.2 ⟨hT,nS C⟩) fun j hj=>by
   rcases List.mem_cons.1 hj with rfl|hj
   ·exact hi
   ·exact hlt j ((fp C j).1 hj)
  simp only[List.length_cons]at this
  omega
 ·rintro⟨h1,h2⟩
  have g1:=ka (m:=n) (nS C) fun j hj=>h1 j ((fp C j).1 hj)
  have g2:=rp (A:=List.range n) (B:=ep C) List.nodup_range fun x hx=>(fp C x).2 (h2 x (List.mem_range.1 hx))
  rw[List.length_range]at g2
  unfold iq
  rw[Bool.and_eq_true,decide_eq_true_eq,List.all_eq_true]
  exact⟨fun c hc=>by simpa using h1 c ((fp C c).1 hc),by omega⟩
theorem vF{l:List ai}{i:Nat}{w:ai}(h:(aQ aO l)[i]?=some w):dY l w=i:=by
 obtain⟨j,y,h1,h2,h3⟩:=gW (ej bg (List.mem_of_getElem? h))
 unfold dY
 rw[h1,Int.toNat_natCast]
 exact(lN l).zero h2 h h3
theorem pj{l:List ai}{k:Int}{a:ai}(hk:bI k=true)(hg:∀v∈l,fX k v)(ha:a∈l):(aQ aO l)[dY l a]?=some a:=by
 obtain⟨j,y,h1,h2,h3⟩:=gW ha
 have hy:=ej bg (List.mem_of_getElem? h2)
 obtain⟨m1,k1,i1⟩:=hg y hy
 obtain⟨m2,k2,i2⟩:=hg a ha
 have e:=Dn m1 m2 (by rw[k1,k2]) (by rw[k1];exact hk) i1 i2 h3
 unfold dY
 rw[h1,Int.toNat_natCast,h2,e]
theorem qO{l:List ai}{k:Int}(h:aL l k=0)(hok:∀v∈l,dF v.i):cM (fa l) l.length k=(aQ aO l,l.map (dY l),0)∧fB (fa l) l.length k=(l,0):=by
 obtain⟨hk,hl,hv⟩:=(cf l k).1 h
 have hg:∀v∈l,fX k v:=fun v hm=>⟨(hv v hm).2,(hv v hm).1,hok v hm⟩
 have hgW:∀v∈aQ aO l,fX k v:=fun v hm=>hg v (ej bg hm)
 have hwl:=kI l
 have hfit:=r9 (l:=l)
 have hrise:=(lN l).IN
 have hu:iq (l.map (dY l)) (aQ aO l).length=true:=by
  rw[rW]
  constructor
  ·intro c hc
   obtain⟨a,ha,rfl⟩:=List.mem_map.1 hc
   exact u9 ha
  ·intro i hi
   have h1:=List.getElem?_eq_getElem hi
   exact List.mem_map.2 ⟨_,ej bg (List.mem_of_getElem? h1),vF h1⟩
 have hpick:gD (aQ aO l) (l.map (dY l))=l:=by
  unfold gD
  rw[List.map_map]
  conv=>rhs;rw[←List.map_id l]
  apply List.map_congr_left
  intro a ha
  simp only[Function.comp_apply,id_eq,List.getD,pj hk hg ha,Option.getD_some]
 have hcl:(l.map (dY l)).length=l.length:=by simp
 have hun:=kC (l.map (dY l)) (eu (aQ aO l).length) hfit
 rw[hcl]at hun
 have hrd:=nm hk (aQ aO l) (cI (l.map (dY l)) (eu (aQ aO l).length)) hgW
 have hB:fa l=a9 (aQ aO l).length++(aW (aQ aO l)++cI (l.map (dY l)) (eu (aQ aO l).length)):=by unfold fa;rw[List.append_assoc]
 have hT:cM (fa l) l.length k=(aQ aO l,l.map (dY l),0):=by
  rw[hB]
  unfold cM
  rw[hk,if_neg (by simp),if_neg (by omega),if_neg (by omega),fc _ (by omega)]
  simp only
  rw[if_neg (by simp),if_neg (by omega),List.drop_left,Int.toNat_natCast]
  unfold eK
  rw[hrd]
  simp only[if_true]
  rw[if_pos hrise]
  unfold uh
  simp only
  rw[if_neg (by simp),hun.2,if_neg (by simp),hun.1,if_pos hu]
 refine⟨hT,?_⟩
 unfold fB
 rw[hT]
 simp only[if_true]
 rw[hpick]
theorem rE{b:List Nat}{n k:Int}{l:List ai}(hb:b6 b)(h:fB b n k=(l,0)):aL l k=0∧fa l=b∧(l.length:Int)=n∧∀v∈l,dF v.i:=by
 unfold fB at h
 rcases ht:cM b n k with⟨W,C,e⟩
 rw[ht]at h
 simp only at h
 by_cases he:e=0
 ·subst he
  simp only[if_true,Prod.mk.injEq,and_true]at h
  obtain⟨N,many,j,i,rfl,hN,hk,hgp,hmN,hrd,hrise,hWl,huE,hC,hu⟩:=pS ht
  obtain⟨hj,hbe⟩:=gT hb hgp
  have hdb:b6 (b.drop j):=fun c hc=>hb c (List.mem_of_mem_drop hc)
  obtain⟨hdr,hgW⟩:=lQ hk many _ W _ hdb hrd
  generalize hr:(b.drop j).drop i=r at*
  have hrb:b6 r:=fun c hc=>hdb c (by rw[hdr];exact List.mem_append_right _ hc)
  have hpu:=nZ r N (eu W.length) hrb huE
  rw[←hC]at hpu
  have hCl:C.length=N:=by rw[hC,cW]
  obtain⟨u1,u2⟩:=rW.1 hu
  have hat:∀c∈C,W[c]?=some (W.getD c zV):=fun c hc=>by
   have:=u1 c hc
   simp[List.getD,this]
  have hmem:∀x,x∈l↔x∈W:=by
   intro x
   rw[←h]
   unfold gD
   constructor
   ·intro hx
    obtain⟨c,hc,rfl⟩:=List.mem_map.1 hx
    exact List.mem_of_getElem? (hat c hc)
   ·intro hx
    obtain⟨i,hi,rfl⟩:=List.mem_iff_getElem.1 hx
    exact List.mem_map.2 ⟨i,u2 i hi,by simp[List.getD,hi]⟩
  have hgl:∀v∈l,fX k v:=fun v hv=>hgW v ((hmem v).1 hv)
  have hll:l.length=N:=by rw[←h,gD,List.length_map,hCl]
  have hwords:aQ aO l=W:=by
   refine wO (lN l) hrise.JG fun x=>?_
   constructor
   ·intro hx
    exact(hmem x).1 (ej bg hx)
   ·intro hx
    have hxl:=(hmem x).2 hx
    exact List.mem_of_getElem? (pj hk hgl hxl)
  have hcodes:l.map (dY l)=C:=by
   conv=>lhs;arg 2;rw[←h]
   unfold gD
   rw[List.map_map]
   conv=>rhs;rw[←List.map_id C]
   apply List.map_congr_left
   intro c hc
   exact vF (by rw[hwords];exact hat c hc)
  refine⟨(cf l k).2 ⟨hk,by omega,fun v hv=>⟨(hgl v hv).2.1,(hgl v hv).1⟩⟩,?_,by omega,fun v hv=>(hgl v hv).2.2⟩
  unfold fa
  rw[hwords,hcodes,hpu,List.append_assoc,←hdr,hWl]
  exact hbe.symm
 ·rw[if_neg he]at h
  simp only[Prod.mk.injEq]at h
  exact absurd h.2 he
theorem DV(a z:Int)(h:dF z):IntKind.i64.wrap (IntKind.i64.wrap (a+z)-a)=z:=by
 obtain⟨q,hq⟩:=ja (a+z)
 obtain⟨p,hp⟩:=ja (IntKind.i64.wrap (a+z)-a)
 have hr:=dy (IntKind.i64.wrap (a+z)-a)
 obtain⟨h1,h2⟩:=h
 omega
theorem wrap_add(a b:Int)(h:dF b):IntKind.i64.wrap (a+IntKind.i64.wrap (b-a))=b:=by
 obtain⟨q,hq⟩:=ja (b-a)
 obtain⟨p,hp⟩:=ja (a+IntKind.i64.wrap (b-a))
 have hr:=dy (a+IntKind.i64.wrap (b-a))
 obtain⟨h1,h2⟩:=h
 omega
theorem wI(n:Int):dF (IntKind.i64.wrap n):=dy n
theorem DU(x:Int)(hx:dF x)(S:List Nat):∀k,dF (qL x S k)
 |0=>hx
 |k+1=>wI _
theorem xu(l:List ai)(v:ai)(h0:l[0]?=some v)(hok:∀v∈l,dF v.i):∀k (y:ai),l[k]?=some y→qL v.i (bQ l) k=y.i:=by
 intro k
 induction k with
 |zero=>intro y hy;rw[h0]at hy;cases hy;rfl
 |succ k ih=>
  intro y hy
  have hlt:=(List.getElem?_eq_some_iff.1 hy).1
  have hx:=List.getElem?_eq_getElem (show k<l.length by omega)
  have hy2:l[k+1]=y:=(List.getElem?_eq_some_iff.1 hy).2
  have hs:=jz l k hlt
  have hgd:(bQ l).getD k 0=pD l[k] l[k+1]:=by simp[List.getD,hs]
  simp only[qL]
  rw[ih _ hx,hgd,hy2]
  unfold pD
  rw[tq _ (wI _),wrap_add _ _ (hok y (List.mem_of_getElem? hy))]
theorem yw(l:List ai)(v:ai)(h0:l[0]?=some v)(hn:∀v∈l,v=ca v.i)(hok:∀v∈l,dF v.i):gV v.i (bQ l) l.length=l:=by
 apply List.ext_getElem
 ·rw[gF]
 ·intro k h1 h2
  have hy:=List.getElem?_eq_getElem h2
  simp only[gV,List.getElem_map,List.getElem_range]
  rw[xu l v h0 hok k _ hy]
  exact(hn _ (List.getElem_mem h2)).symm
theorem yA(x:Int)(hx:dF x)(S:List Nat)(hS:∀n∈S,n<18446744073709551616):bQ (gV x S (S.length+1))=S:=by
 apply List.ext_getElem
 ·rw[fA,gF];rfl
 ·intro k h1 h2
  have h3:=jz (gV x S (S.length+1)) k (by rw[gF];omega)
  rw[List.getElem?_eq_getElem h1]at h3
  rw[Option.some.inj h3]
  simp only[gV,List.getElem_map,List.getElem_range,pD,ca]
  have hgd:S.getD k 0=S[k]:=by simp[List.getD,h2]
  have hlt:=hS _ (List.getElem_mem h2)
  simp only[qL,hgd]
  rw[DV _ _ (mD _ hlt),tk _ hlt]
theorem kz(v:ai)(r:List ai):gL (v::r)=a9 (fU v.i)++(a9 (cZ (bQ (v::r)))++cI (bQ (v::r)) (cZ (bQ (v::r)))):=by
 rw[←List.append_assoc];rfl
theorem Dk(l:List ai)(hl:l≠[])(hm:l.length≤4096)(hn:∀v∈l,v=ca v.i)(hok:∀v∈l,dF v.i):ry (gL l) l.length=(some l,0):=by
 cases l with
 |nil=>exact absurd rfl hl
 |cons v r=>
  have hlen:(v::r).length=r.length+1:=rfl
  have hv:=hok v (by simp)
  have hz:=gd hv.1 hv.2
  have hss:=kR (v::r)
  have hw:=kS hss
  have hfit:=n6 (l:=bQ (v::r))
  have hsl:=fA (v::r)
  have hsum:=yw (v::r) v rfl hn hok
  unfold ry
  rw[if_neg (by omega),if_neg (by omega)]
  unfold HI
  rw[kz,fc _ hz,List.drop_left]
  simp only
  rw[fc _ (by omega),←List.append_assoc,←List.length_append,List.drop_left]
  simp only
  have hu:=kC (bQ (v::r)) (cZ (bQ (v::r))) hfit
  rw[hsl]at hu
  rw[Int.toNat_natCast,hu.1,hu.2,tq _ hv,hsum]
  simp[show ¬64<cZ (bQ (v::r)) by omega]
theorem vA(b:List Nat)(n:Int)(k:List ai)(hb:∀c∈b,c<256)(h:ry b n=(some k,0)):gL k=b∧(k.length:Int)=n∧k≠[]∧n≤4096∧(∀v∈k,v=ca v.i)∧∀v∈k,dF v.i:=by
 unfold ry at h
 by_cases h1:n<0∨4096<n
 ·rw[if_pos h1]at h;simp at h
 rw[if_neg h1]at h
 by_cases h2:n=0
 ·rw[if_pos h2]at h;simp at h
 rw[if_neg h2]at h
 obtain⟨m,hm⟩:∃m:Nat,n=((m+1:Nat):Int):=⟨n.toNat-1,by omega⟩
 have hmt:n.toNat=m+1:=by omega
 unfold HI at h
 rw[hmt,show m+1-1=m from rfl]at h
 have hlt1:=jE b
 rcases hg:aJ b with⟨first,k1,e1⟩
 rw[hg]at h hlt1
 simp only at h hlt1
 by_cases he:e1=0
 ·subst he
  simp only[ne_eq,not_true_eq_false,if_false]at h
  obtain⟨hk1,hb1⟩:=gT hb hg
  have hb2:∀c∈b.drop k1,c<256:=fun c hc=>hb c (List.mem_of_mem_drop hc)
  rcases hg2:aJ (b.drop k1)with⟨w,j,e2⟩
  rw[hg2]at h
  simp only at h
  by_cases he2:e2=0
  ·subst he2
   simp only[not_true_eq_false,if_false]at h
   obtain⟨hj,hb3⟩:=gT hb2 hg2
   rw[List.drop_drop]at hb3
   by_cases hw:64<w
   ·rw[if_pos hw]at h;simp at h
   rw[if_neg hw]at h
   by_cases hu:bG (b.drop (k1+j)) m w=0
   ·rw[if_neg (by simp[hu])]at h
    have hpk:=nZ (b.drop (k1+j)) m w (fun c hc=>hb c (List.mem_of_mem_drop hc)) hu
    have hSl:=jJ (b.drop (k1+j)) m w (by omega)
    have hSn:=cW (b.drop (k1+j)) m w
    generalize bu (b.drop (k1+j)) m w=S at*
    by_cases hwd:cZ S=w
    ·rw[if_neg (by simp[hwd])]at h
     have hk:k=gV (ew first) S (m+1):=by
      have:=(Prod.mk.inj h).1
      exact(Option.some.inj this).symm
     have hsteps:=yA (ew first) (mD _ hlt1) S hSl
     rw[hSn]at hsteps
     have hnum:∀v∈k,v=ca v.i∧dF v.i:=by
      intro v hv
      rw[hk]at hv
      obtain⟨i,_,rfl⟩:=List.mem_map.1 hv
      exact⟨rfl,DU _ (mD _ hlt1) S i⟩
     refine⟨?_,by rw[hk,gF,hm],by rw[hk];intro e;have:=congrArg List.length e;rw[gF]at this;simp at this,by omega,fun v hv=>(hnum v hv).1,fun v hv=>(hnum v hv).2⟩
     obtain⟨r,hr⟩:∃r,gV (ew first) S (m+1)=ca (ew first)::r:=⟨_,by simp only[gV,List.range_succ_eq_map,List.map_cons];rfl⟩
     rw[hk,hr,kz,←hr,hsteps,hwd,hpk]
     simp only[ca]
     rw[tk _ hlt1,←hb3,←hb1]
    ·rw[if_pos hwd]at h;simp at h
   ·rw[if_pos hu]at h
    simp at h
  ·rw[if_pos he2]at h;simp at h
 ·rw[if_pos he]at h;simp at h
theorem kP{b:List Nat}(h:b6 b)(n:Nat):b6 (b.drop n):=fun c hc=>h c (List.mem_of_mem_drop hc)
theorem uc{b:List Nat}{n k:Int}{l:List ai}(hb:b6 b)(h:dq b n k=(l,0)):bI k=true∧(∀v∈l,fX k v)∧l.length≤4096∧b=aW l∧(l.length:Int)=n:=by
 unfold dq at h
 split at h
 ·simp at h
 rename_i hk
 have hk:bI k=true:=by simpa using hk
 split at h
 ·simp at h
 split at h
 ·simp at h
 split at h
 ·rename_i he
  simp only[Prod.mk.injEq]at h
  exact absurd h.2 he
 split at h
 ·simp at h
 rename_i h1 h2 h3 h4
 simp only[Prod.mk.injEq,and_true]at h
 have h3:(aR k n.toNat b).2.2=0:=by simpa using h3
 have h4:(aR k n.toNat b).2.1=[]:=by simpa using h4
 have e:aR k n.toNat b=(l,[],0):=by rw[←h,←h3,←h4]
 obtain⟨g1,g2⟩:=lQ hk _ b l [] hb e
 have hlen:=ji k n.toNat b h3
 rw[e]at hlen
 simp only at hlen
 exact⟨hk,g2,by omega,by rw[g1,List.append_nil],by omega⟩
theorem xq{b r:List Nat}{n:Nat}{k:Int}{q:Nat×ai}(hb:b6 b)(hk:bI k=true)(h:dC b n k=(q,r,0)):fX k q.2∧b=kX q++r∧1≤q.1∧q.1≤n∧b6 r:=by
 obtain⟨g1,g2,j,g3⟩:=qi h
 unfold dC at h
 split at h
 ·rename_i he
  simp only[Prod.mk.injEq]at h
  exact absurd h.2.2 he
 split at h
 ·simp at h
 split at h
 ·rename_i he
  simp only[Prod.mk.injEq]at h
  exact absurd h.2.2 he
 ·rename_i h1 h2 h3
  simp only[Prod.mk.injEq,and_true]at h
  obtain⟨rfl,rfl⟩:=h
  have h3:(dz (b.drop (aJ b).2.1) k).2.2=0:=by simpa using h3
  obtain⟨e1,e2,e3,e4⟩:=wQ (v:=(dz (b.drop (aJ b).2.1) k).1) (r:=(dz (b.drop (aJ b).2.1) k).2.1) (kP hb _) hk (by rw[←h3])
  have h1:(aJ b).2.2=0:=by simpa using h1
  obtain⟨f1,f2⟩:=gT (n:=(aJ b).1) (k:=(aJ b).2.1) hb (by rw[←h1])
  refine⟨⟨e2,e3,e4⟩,?_,g1,g2,by rw[g3];exact kP hb _⟩
  unfold kX
  simp only
  rw[List.append_assoc,←e1]
  exact f2
theorem vx(k:Int)(hk:bI k=true):∀(f:Nat) (R:List (Nat×ai)) (n:Nat) (b:List Nat),b6 b→(∀r∈R,fX k r.2)→∀r∈(ti k f R n b).1,fX k r.2
 |0,R,n,b,hb,h=>h
 |f+1,R,n,b,hb,h=>by
  unfold ti
  split
  ·exact h
  split
  ·simp
  rename_i he
  split
  ·simp
  obtain⟨q,r,e,hq⟩:∃q r e,dC b n k=(q,r,e):=⟨_,_,_,rfl⟩
  rw[hq]at he⊢
  obtain rfl:e=0:=by simpa using he
  obtain⟨g1,g2,g3,g4,g5⟩:=xq hb hk hq
  refine vx k hk f _ _ _ g5 fun x hx=>?_
  rcases List.mem_append.1 hx with h'|h'
  ·exact h x h'
  ·rw[List.mem_singleton.1 h'];exact g1
theorem zk{R:List (Nat×ai)}{v:ai}(h:v∈cJ R):∃r∈R,r.2=v:=by
 have:∀(R:List (Nat×ai)) (l:List ai),v∈R.foldl bU l→v∈l∨∃r∈R,r.2=v:=by
  intro R
  induction R with
  |nil=>exact fun l h=> .inl h
  |cons r R ih=>
   intro l h
   rcases ih _ h with h|⟨r',h1,h2⟩
   ·rcases List.mem_append.1 h with h|h
    ·exact .inl h
    ·exact .inr ⟨r,by simp,(List.eq_of_mem_replicate h).symm⟩
   ·exact .inr ⟨r',by simp[h1],h2⟩
 rcases this R [] h with h|h
 ·cases h
 ·exact h
theorem xR{b:List Nat}{n k:Int}{l:List ai}(hb:b6 b)(h:fO b n k=(l,0)):bI k=true∧(∀v∈l,fX k v):=by
 unfold fO at h
 split at h
 ·rename_i he
  simp only[Prod.mk.injEq]at h
  exact absurd h.2 he
 rename_i he
 simp only[Prod.mk.injEq,and_true]at h
 subst h
 unfold dK at he⊢
 split at he
 ·simp at he
 rename_i hk
 have hk:bI k=true:=by simpa using hk
 rw[if_neg (by simp[hk])]
 refine⟨hk,?_⟩
 split
 ·intro v hv;simp[cJ]at hv
 split
 ·intro v hv;simp[cJ]at hv
 split
 ·intro v hv;simp[cJ]at hv
 split
 ·intro v hv;simp[cJ]at hv
 intro v hv
 obtain⟨r,h1,rfl⟩:=zk hv
 exact vx k hk _ [] _ b hb (by simp) r h1
theorem Bf(b:List Nat)(n k:Int):(fO b n k).1.length≤4096:=by
 unfold fO
 split
 ·simp
 ·exact ql _
theorem uY(b:List Nat)(n k:Int):(dq b n k).1.length≤4096:=by
 unfold dq
 split
 ·simp
 split
 ·simp
 split
 ·simp
 split
 ·simp
 split
 ·simp
 rename_i h1 h2 h3 h4 h5
 have:=ji k n.toNat b (by simpa using h4)
 simp only
 omega
theorem xI(b:List Nat)(n k:Int)(hb:b6 b):(fB b n k).1.length≤4096:=by
 obtain⟨l,e,h⟩:∃l e,fB b n k=(l,e):=⟨_,_,rfl⟩
 by_cases he:e=0
 ·subst he
  have:=rE hb h
  rw[h]
  exact((cf l k).1 this.1).2.1
 ·unfold fB at h⊢
  split at h
  ·rename_i h0
   simp only[Prod.mk.injEq]at h
   exact absurd h.2.symm he
  ·rename_i h0
   rw[if_neg h0];simp
theorem FK(b:List Nat)(n:Int)(hb:b6 b):((ry b n).1.getD []).length≤4096:=by
 obtain⟨o,e,h⟩:∃o e,ry b n=(o,e):=⟨_,_,rfl⟩
 rw[h]
 cases o with
 |none=>simp
 |some l=>
  have he:e=0:=by
   unfold ry at h
   split at h
   ·simp at h
   split at h
   ·simp at h
   unfold HI at h
   repeat' split at h
   all_goals simp at h
   all_goals first|exact h.2.symm|exact absurd h id
  subst he
  have:=vA b n l hb h
  simp only[Option.getD_some]
  omega
theorem Ap{b:List Nat}{n k w:Int}{l:List ai}(hb:b6 b)(h:fS b n k w=(l,0)):bI k=true∧(∀v∈l,fX k v)∧1≤w∧w≤4:=by
 unfold fS at h
 split at h
 ·obtain⟨h1,h2,_⟩:=uc hb h
  exact⟨h1,h2,by omega,by omega⟩
 split at h
 ·obtain⟨h1,h2⟩:=xR hb h
  exact⟨h1,h2,by omega,by omega⟩
 split at h
 ·obtain⟨h1,_,_,h4⟩:=rE hb h
  obtain⟨g1,_,g3⟩:=(cf l k).1 h1
  exact⟨g1,fun v hv=>⟨(g3 v hv).2,(g3 v hv).1,h4 v hv⟩,by omega,by omega⟩
 split at h
 ·rename_i hw
  obtain⟨hw,rfl⟩:=hw
  simp only[Prod.mk.injEq]at h
  obtain⟨h1,h2⟩:=h
  refine⟨rfl,?_,by omega,by omega⟩
  cases ho:(ry b n).1 with
  |none=>rw[ho]at h1;subst h1;simp
  |some l'=>
   rw[ho]at h1
   subst h1
   obtain⟨_,_,_,_,g1,g2⟩:=vA b n l' hb (by rw[←ho,←h2])
   intro v hv
   refine⟨?_,?_,g2 v hv⟩
   ·rw[g1 v hv];exact(kj rfl).2 rfl
   ·rw[g1 v hv];rfl
 ·simp at h
theorem wN(b:List Nat)(n k w:Int)(hb:b6 b):(fS b n k w).1.length≤4096:=by
 unfold fS
 split
 ·exact uY b n k
 split
 ·exact Bf b n k
 split
 ·exact xI b n k hb
 split
 ·exact FK b n hb
 ·simp
end Go.Proofs.YtmbagpfmfiegkaaGreat

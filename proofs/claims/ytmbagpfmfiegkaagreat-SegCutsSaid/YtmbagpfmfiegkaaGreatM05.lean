/- rle.last, Runs: what they do. rle.Bytes: what it does. dict.ToCodes, dict.Of: what they do. dict.Of: what it does. seg.codecs: what it does. delta.Steps, delta.Sorted, delta.Bytes: what they do. delta.Sorted, delta.Bytes: what they do. seg.Body, best: what they do. null.Count, Of, Bytes: what they do. A range over a function, as it is walked. Arguments: bytes and numbers. null.some, its iterator; slices.AppendSeq, Collect; null.Split, Join. slices.AppendSeq, Collect of values. null.Split, Join: what they do. seg.Make: what it does. rle.next: what it does. rle.ToRuns: what it does. math/bits.Mul64: what it does. math/bits.Mul; slices.Repeat of one value: what they do. rle.Spread, Of; the codec's reader: what they do. delta.Of: what it does. Drawn regions in which a variable is laid down at any time: its place is kept ahead of the region. seg.Seg.Vals: what it does. What is laid down is read, and the other way round: plain facts about bytes. Zig and zag. Wrapping as a step of whole rounds. Values' bytes: what is laid down is read, and the other way round (plain). Dict's bytes: what is laid down is read, and the other way round (plain). Steps and sums; what is laid down is read, and the other way round. What a segment's reader answers, in plain terms: good values. -/
import Derived.Laws.Bits64b
import Derived.Lib.Mul64
import Derived.Test.YtmbagpfmfiegkaaGreatM04
set_option maxHeartbeats 8000000
set_option maxRecDepth 100000
set_option linter.all false
namespace Go.Proofs.YtmbagpfmfiegkaaGreat
open Go.Proofs.YtmbagpfmfiegkaaGreatAw Go.RowKit
def eU(r:Nat×aj):List D:=[.v (.int .i64 r.1),.v (.int .i64 r.2.kind),.v (.int .i64 r.2.i),.v (.string r.2.s)]
def jb(r:Nat×aj):AV:= .agg [iA r.1,iA r.2.kind,iA r.2.i,sA r.2.s]
def zR:Nat×aj:=(0,zV)
def cL(R:List (Nat×aj)):Nat×aj:=R.getLast?.getD zR
def gQ(R:List (Nat×aj))(v:aj):List (Nat×aj):=if R≠[]∧(cL R).2=v then R.dropLast++[((cL R).1+1,v)]else R++[(1,v)]
def c5(l:List aj):List (Nat×aj):=l.foldl gQ []
theorem lM(l:List aj)(k:Nat)(h:k<l.length):c5 (l.take (k+1))=gQ (c5 (l.take k)) l[k]:=by
 unfold c5
 rw[List.take_succ_eq_append_getElem h,List.foldl_append];rfl
theorem D4(R:List (Nat×aj))(v:aj):(gQ R v).length≤R.length+1:=by
 unfold gQ
 split
 ·rw[List.length_append,List.length_dropLast,List.length_singleton];omega
 ·simp
theorem kW(l:List aj):∀k,(c5 (l.take k)).length≤k:=by
 intro k
 induction k with
 |zero=>simp[c5]
 |succ k ih=>
  rcases Nat.lt_or_ge k l.length with h|h
  ·rw[lM l k h]
   have:=D4 (c5 (l.take k)) l[k]
   omega
  ·rw[List.take_of_length_le (by omega)]
   rw[List.take_of_length_le h]at ih
   omega
theorem DB{R:List (Nat×aj)}{k:Nat}(h:∀r∈R,r.1≤k)(v:aj):∀r∈gQ R v,r.1≤k+1:=by
 intro r hr
 unfold gQ at hr
 split at hr
 ·rename_i hc
  rcases List.mem_append.1 hr with hr|hr
  ·have:=h r (List.dropLast_subset R hr);omega
  ·simp at hr
   have hm:cL R∈R:=by
    unfold cL
    rw[List.getLast?_eq_getElem?]
    have hp:0<R.length:=List.length_pos_iff.2 hc.1
    rw[List.getElem?_eq_getElem (by omega)]
    exact List.getElem_mem _
   have:=h _ hm
   rw[hr];simp only;omega
 ·rcases List.mem_append.1 hr with hr|hr
  ·have:=h r hr;omega
  ·simp at hr;rw[hr];simp
theorem kX(l:List aj):∀k,∀r∈c5 (l.take k),r.1≤k:=by
 intro k
 induction k with
 |zero=>intro r hr;simp[c5]at hr
 |succ k ih=>
  rcases Nat.lt_or_ge k l.length with h|h
  ·rw[lM l k h]
   exact DB ih _
  ·rw[List.take_of_length_le (by omega)]
   rw[List.take_of_length_le h]at ih
   intro r hr
   have:=ih r hr;omega
theorem rE(R:List (Nat×aj))(G:aa)(id ver:Nat)(hl:R.length≤1000000000000)(h:G[id]?=some (.arr 165 4 ver (R.map eU))):
  ah Tryz.prog 148 [.sl id ver 0 R.length] G (.ok (.bu [jb (cL R),bA (decide (R≠[]))])) G:=by
 have hlt:=aw h
 refine ah.bR (hint:=fun _=>false) Tryz.func148 (by kernel_rfl) rfl [.cell 2 165,.tmp 3] (by kernel_rfl) (by simp[Tryz.ntmps148]) ?_
 rw[Tryz.ntmps148]
 by_cases h0:R=[]
 ·subst h0
  simp only[List.length_nil,List.map_nil]at h⊢
  simp -implicitDefEqProofs only[↓reduceIte,go_sem,ai,aq,Nat.reduceAdd,Nat.reduceLT,Nat.reduceEqDiff,reduceCtorEq,eq_self,h,List.getElem?_append_left hlt,List.length_nil]
  refine bG.ret ?_
  simp -implicitDefEqProofs only[↓reduceIte,go_sem,ai,Nat.reduceAdd,Nat.reduceLT,Nat.reduceLeDiff,Nat.reduceEqDiff,eq_self,aO,bP,jb,cL,zR,zV,dH,List.getLast?_nil,Option.getD_none]
 ·have hpos:0<R.length:=List.length_pos_iff.2 h0
  obtain⟨n,hn⟩:∃n,R.length=n+1:=⟨R.length-1,by omega⟩
  have hget:R[n]?=some (cL R):=by
   unfold cL
   rw[List.getLast?_eq_getElem?,hn,Nat.add_sub_cancel,List.getElem?_eq_getElem (by omega)]
   rfl
  generalize hm:R.length=m at*
  have hw:IntKind.i64.wrap ((m:Int)-1)=(n:Int):=by rw[wrap64_in _ (by omega) (by omega)];omega
  generalize cL R=q at*
  simp -implicitDefEqProofs only[↓reduceIte,go_sem,ai,aq,Nat.reduceAdd,Nat.reduceLT,Nat.reduceEqDiff,reduceCtorEq,eq_self,h,List.getElem?_append_left hlt,hw,hget,show((m:Int)=0)=False from eq_false (by omega),show((n:Int)<(m:Int))=True from eq_true (by omega),show((0:Int)≤(n:Int))=True from eq_true (by omega),Option.map_some,eU,List.take_succ_cons,List.take_zero,List.map_cons,List.map_nil,List.length_cons,List.length_nil]
  refine bG.ret ?_
  simp -implicitDefEqProofs only[↓reduceIte,go_sem,ai,Nat.reduceAdd,Nat.reduceLT,Nat.reduceLeDiff,Nat.reduceEqDiff,eq_self,aO,bP,jb,h0,not_false_eq_true,decide_true]
theorem DZ{R:List (Nat×aj)}{v:aj}(h:¬(R≠[]∧(cL R).2=v)):(gQ R v).map eU=R.map eU++[[.v (.int .i64 1),.v (.int .i64 v.kind),.v (.int .i64 v.i),.v (.string v.s)]]:=by
 unfold gQ
 rw[if_neg h]
 simp[eU]
theorem FF{R:List (Nat×aj)}{v:aj}{n:Nat}(h:R≠[]∧(cL R).2=v)(hn:R.length=n+1):R[n]?=some (cL R)∧
  (R.map eU).set n [.v (.int .i64 (((cL R).1+1:Nat):Int)),.v (.int .i64 v.kind),.v (.int .i64 v.i),.v (.string v.s)]=(gQ R v).map eU∧(gQ R v).length=n+1:=by
 have hg:R[n]?=some (cL R):=by
  unfold cL
  rw[List.getLast?_eq_getElem?,hn,Nat.add_sub_cancel,List.getElem?_eq_getElem (by omega)]
  rfl
 refine⟨hg,?_,?_⟩
 ·unfold gQ
  rw[if_pos h]
  have hd:R=R.dropLast++[cL R]:=by
   rw[List.dropLast_eq_take,hn,Nat.add_sub_cancel]
   conv=>lhs;rw[←List.take_append_drop n R]
   obtain⟨h1,h2⟩:=List.getElem?_eq_some_iff.1 hg
   rw[List.drop_eq_getElem_cons h1,h2,List.drop_eq_nil_of_le (by omega)]
  have hl:R.dropLast.length=n:=by rw[List.length_dropLast,hn];rfl
  generalize cL R=q at*
  rw[List.map_append]
  generalize R.dropLast=D at*
  subst hd
  rw[List.map_append,List.set_append_right n _ (by rw[List.length_map,hl];exact Nat.le_refl _),List.length_map,hl,Nat.sub_self]
  rfl
 ·unfold gQ
  rw[if_pos h,List.length_append,List.length_dropLast,hn];rfl
theorem Bp(l:List aj)(nn:Bool)(hl:l.length≤1000000000)(H:aa):
  ah Tryz.prog 116 [.d (.list nn (l.map aj.enc))] H (.ok (.d (.list false ((c5 l).map eU)))) H:=by
 have hlen:=kW l
 have hcnt:=kX l
 refine ah.ao (hint:=(fun _=>false)) Tryz.func116 (by kernel_rfl) rfl [2] (by kernel_rfl) (by decide) (by simp[Tryz.ntmps116]) ?_
 rw[Tryz.ntmps116]
 simp -implicitDefEqProofs only[↓reduceIte,go_sem,Nat.reduceLT,reduceCtorEq,eq_self]
 refine bD (fun k s H'=>∃ver,H'=H++[.arr 165 4 ver ((c5 (l.take k)).map eU)]∧s 3= .sl H.length ver 0 (c5 (l.take k)).length∧s 8= .d (.list nn (l.map aj.enc))∧s 9=iA l.length∧s 10=iA k) l.length (by omega) (az.fg _ _ 3 165 4 (by decide) (by simp -implicitDefEqProofs only[↓reduceIte,go_sem,Nat.reduceLT,Nat.reduceEqDiff,eq_self]) _) ?_ ?_ ?_
 ·refine⟨0,rfl,?_⟩
  simp -implicitDefEqProofs only[↓reduceIte,go_sem,Nat.reduceLT,Nat.reduceEqDiff,eq_self]
  rfl
 ·rintro k s H' hk hw ⟨ver,rfl,t3,t8,t9,t10⟩
  have hx:=List.getElem?_eq_getElem hk
  have e1:=lM l k hk
  have hR:=hlen k
  have hC:=hcnt k
  rw[e1]
  generalize l[k]=v at*
  generalize c5 (l.take k)=R at*
  have hld:=rE R (H++[.arr 165 4 ver (R.map eU),.box 25 3 0 1 [iA v.kind,iA v.i,sA v.s]]) H.length ver (by omega) (by simp)
  simp -implicitDefEqProofs only[↓reduceIte,go_sem,aq,Nat.reduceAdd,Nat.reduceLT,Nat.reduceEqDiff,eq_self,t3,t8,t9,t10,hk,hx,aj.enc]
  refine ae.ok hld ?_
  by_cases hc:R≠[]∧(cL R).2=v
  ·obtain⟨n,hn⟩:∃n,R.length=n+1:=⟨R.length-1,by have:=List.length_pos_iff.2 hc.1;omega⟩
   obtain⟨a1,a2,a3⟩:=FF hc hn
   rw[a3]
   rw[hn]at t3
   have h1:=hc.1
   have h2:=hc.2
   generalize cL R=q at*
   obtain⟨m,w⟩:=q
   simp only at h2 a2
   subst h2
   have hm:=hC _ (List.mem_of_getElem? a1)
   simp only at hm
   have w1:IntKind.i64.wrap ((m:Int)+1)=((m+1:Nat):Int):=by rw[wrap64_in _ (by omega) (by omega)];rfl
   generalize hz:n+1=z at*
   have w2:IntKind.i64.wrap ((z:Int)-1)=(n:Int):=by rw[wrap64_in _ (by omega) (by omega)];omega
   generalize hy:((m+1:Nat):Int)=y at*
   generalize (gQ R w).map eU=R2 at*
   simp -implicitDefEqProofs only[↓reduceIte,go_sem,ai,aq,Nat.reduceAdd,Nat.reduceLT,Nat.reduceLeDiff,Nat.reduceEqDiff,eq_self,jb,ne_eq,h1,not_false_eq_true,decide_true,jn,t3,hn,w2,show((n:Int)<(z:Int))=True from eq_true (by omega),show((0:Int)≤(n:Int))=True from eq_true (by omega),a1,Option.map_some,eU,List.take_succ_cons,List.take_zero,List.map_cons,List.map_nil,List.length_cons,List.length_nil,w1,List.drop_succ_cons,List.drop_zero,a2]
   simp -implicitDefEqProofs only[↓reduceIte,go_sem,Nat.reduceLT,eq_self,t10]
   refine fj.cut [.arr 165 4 ver R2] [.box 25 3 0 1 [iA w.kind,iA w.i,sA w.s],.box 165 4 0 1 [iA m,iA w.kind,iA w.i,sA w.s]] 1 rfl rfl (by simp -implicitDefEqProofs only[go_sem,eq_self]) ?_
   refine⟨ver,rfl,?_⟩
   simp -implicitDefEqProofs only[↓reduceIte,go_sem,Nat.reduceLT,Nat.reduceEqDiff,eq_self,t3,t8,t9,hw]
  ·have a1:=DZ hc
   have a2:(gQ R v).length=R.length+1:=by unfold gQ;rw[if_neg hc,List.length_append];rfl
   rw[a2]
   by_cases h1:R=[]
   ·subst h1
    generalize (gQ [] v).map eU=R2 at*
    simp only[List.length_nil,List.map_nil,List.nil_append]at a1 t3⊢
    subst a1
    simp -implicitDefEqProofs only[↓reduceIte,go_sem,ai,aq,Nat.reduceAdd,Nat.reduceLT,Nat.reduceLeDiff,Nat.reduceEqDiff,reduceCtorEq,eq_self,jb,cL,zR,zV,dH,List.getLast?_nil,Option.getD_none,ne_eq,not_true_eq_false,decide_false,t3,List.length_nil]
    simp -implicitDefEqProofs only[↓reduceIte,go_sem,Nat.reduceLT,eq_self,t10]
    refine fj.cut [.arr 165 4 (ver+1) [[.v (.int .i64 1),.v (.int .i64 v.kind),.v (.int .i64 v.i),.v (.string v.s)]]] [.box 25 3 0 1 [iA v.kind,iA v.i,sA v.s],.box 165 4 0 1 [iA 0,iA 0,iA 0,sA ⟨#[]⟩]] 1 rfl rfl (by simp -implicitDefEqProofs only[go_sem,eq_self]) ?_
    refine⟨ver+1,rfl,?_⟩
    simp -implicitDefEqProofs only[↓reduceIte,go_sem,Nat.reduceLT,Nat.reduceEqDiff,eq_self,t8,t9,hw]
   ·have h2:¬(cL R).2=v:=fun h=>hc ⟨h1,h⟩
    generalize cL R=q at*
    obtain⟨m,w⟩:=q
    simp only at h2
    generalize (gQ R v).map eU=R2 at*
    subst a1
    simp -implicitDefEqProofs only[↓reduceIte,go_sem,ai,aq,Nat.reduceAdd,Nat.reduceLT,Nat.reduceLeDiff,Nat.reduceEqDiff,eq_self,jb,ne_eq,h1,not_false_eq_true,decide_true,jn,h2,decide_false,t3,List.length_map]
    refine⟨by omega,by omega,?_⟩
    simp -implicitDefEqProofs only[↓reduceIte,go_sem,Nat.reduceLT,eq_self,t10]
    refine fj.cut [.arr 165 4 (ver+1) (R.map eU++[[.v (.int .i64 1),.v (.int .i64 v.kind),.v (.int .i64 v.i),.v (.string v.s)]])] [.box 25 3 0 1 [iA v.kind,iA v.i,sA v.s],.box 165 4 0 1 [iA m,iA w.kind,iA w.i,sA w.s]] 1 rfl rfl (by simp -implicitDefEqProofs only[go_sem,eq_self]) ?_
    refine⟨ver+1,rfl,?_⟩
    simp -implicitDefEqProofs only[↓reduceIte,go_sem,Nat.reduceLT,Nat.reduceEqDiff,eq_self,t8,t9,hw]
 ·rintro s H' ⟨ver,rfl,t3,t8,t9,t10⟩
  rw[List.take_length]at t3
  rw[List.take_length]
  simp -implicitDefEqProofs only[↓reduceIte,go_sem,Nat.reduceLT,Nat.reduceEqDiff,eq_self,t3,t9,t10]
  refine aC.ret ?_
  simp -implicitDefEqProofs only[↓reduceIte,go_sem,Nat.reduceLT,eq_self,List.take_of_length_le (show((c5 l).map eU).length≤(c5 l).length by rw[List.length_map];exact Nat.le_refl _)]
theorem En{R:List (Nat×aj)}{p:aj→Prop}(h:∀r∈R,p r.2){v:aj}(hv:p v):∀r∈gQ R v,p r.2:=by
 intro r hr
 unfold gQ at hr
 split at hr
 ·rcases List.mem_append.1 hr with hr|hr
  ·exact h r (List.dropLast_subset R hr)
  ·simp at hr;rw[hr];exact hv
 ·rcases List.mem_append.1 hr with hr|hr
  ·exact h r hr
  ·simp at hr;rw[hr];exact hv
theorem rq{p:aj→Prop}:∀(l:List aj) (R:List (Nat×aj)),(∀v∈l,p v)→(∀r∈R,p r.2)→∀r∈l.foldl gQ R,p r.2
 |[],R,_,h=>h
 |v::l,R,hl,h=>rq l _ (fun x hx=>hl x (by simp[hx])) (En h (hl v (by simp)))
theorem ng{p:aj→Prop}{l:List aj}(h:∀v∈l,p v):∀r∈c5 l,p r.2:=rq l [] h (by simp)
def lf(r:Nat×aj):List Nat:=bq r.1++cY r.2
def ey(R:List (Nat×aj)):List Nat:=R.flatMap lf
def sr(l:List aj)(k:Int):List Nat:=if aQ l k=0 then ey (c5 l)else[]
theorem rY(R:List (Nat×aj))(r:Nat×aj):ey (R++[r])=ey R++lf r:=by simp[ey]
theorem q8(l:List aj)(k:Int)(hok:∀v∈l,dI v.i)(H:aa)(hl:l.length≤1000000000):
  ah Tryz.prog 80 [.d (.list false (l.map aj.enc)),iA k] H (.ok (.bu [.d (.list false (aL (sr l k))),iA (aQ l k)])) H:=by
 by_cases hp:aQ l k=0
 ·rw[show sr l k=ey (c5 l)from if_pos hp]
  have hmay:=eI hp
  have h4:=eg hp
  have hrd:=fun H=>Bp l false hl H
  have hRl:=kW l l.length
  have hRc:=kX l l.length
  rw[List.take_length]at hRl hRc
  have hRv:=ng (p:=fun v=>dI v.i∧cW v=true) (l:=l) fun v hv=>⟨hok v hv,hmay v hv⟩
  generalize c5 l=R at*
  have hone:∀r∈R,(lf r).length≤1050:=fun r hr=>by
   have h1:=bz 10 r.1 (by have:=hRc r hr;omega)
   have h2:=dx (hRv r hr).1 (hRv r hr).2
   unfold lf
   rw[List.length_append];omega
  have hWb:∀k,k≤R.length→(ey (R.take k)).length≤k* 1050:=by
   intro k
   induction k with
   |zero=>intro _;simp[ey]
   |succ k ih=>
    intro hk
    have hk':k<R.length:=by omega
    rw[List.take_succ_eq_append_getElem hk',rY,List.length_append]
    have h1:=ih (by omega)
    have h2:=hone _ (List.getElem_mem hk')
    omega
  refine ah.ao (hint:=(fun _=>false)) Tryz.func80 (by kernel_rfl) rfl [4,5] (by kernel_rfl) (by decide) (by simp[Tryz.ntmps80]) ?_
  rw[Tryz.ntmps80]
  simp -implicitDefEqProofs only[↓reduceIte,go_sem,Nat.reduceLT,Nat.reduceEqDiff,reduceCtorEq,eq_self]
  refine ae.ok (dW l k false _ (by omega)) ?_
  rw[hp]
  simp -implicitDefEqProofs only[↓reduceIte,go_sem,Nat.reduceLT,reduceCtorEq,eq_self]
  refine ae.ok (hrd _) ?_
  simp -implicitDefEqProofs only[↓reduceIte,go_sem,Nat.reduceLT,eq_self]
  refine bD (fun j s H'=>∃ver,H'=H++[.arr 5 1 ver (aL (ey (R.take j)))]∧s 7= .sl H.length ver 0 (ey (R.take j)).length∧s 19= .d (.list false (R.map eU))∧s 20=iA R.length∧s 21=iA j) R.length (by omega) (az.fg _ _ 7 5 1 (by decide) (by simp -implicitDefEqProofs only[↓reduceIte,go_sem,Nat.reduceLT,Nat.reduceEqDiff,eq_self]) _) ?_ ?_ ?_
  ·refine⟨0,rfl,?_⟩
   simp -implicitDefEqProofs only[↓reduceIte,go_sem,Nat.reduceLT,Nat.reduceEqDiff,eq_self]
   rfl
  ·rintro j s H' hj hw ⟨ver,rfl,t7,t19,t20,t21⟩
   have hx:=List.getElem?_eq_getElem hj
   have hm:=List.getElem_mem hj
   have hb:=hWb j (by omega)
   have hrl:=hone _ hm
   have hc:=hRc _ hm
   have hv:=hRv _ hm
   have e1:ey (R.take (j+1))=ey (R.take j)++(bq (R[j]).1++cY (R[j]).2):=by rw[List.take_succ_eq_append_getElem hj,rY,lf]
   unfold lf at hrl
   rw[List.length_append]at hrl
   rw[e1]
   generalize ey (R.take j)=B at*
   generalize R[j]=r at*
   obtain⟨m,w⟩:=r
   simp only at hrl hc hv⊢
   have hvd:=fun H=>eG w hv.1 hv.2 H
   have wm:=aZ m (by omega)
   simp -implicitDefEqProofs only[↓reduceIte,go_sem,ai,aq,Nat.reduceAdd,Nat.reduceLT,Nat.reduceEqDiff,eq_self,t19,t20,t21,hj,hx,eU]
   refine ae.ok (hvd _) ?_
   simp -implicitDefEqProofs only[↓reduceIte,go_sem,ai,Nat.reduceAdd,Nat.reduceLT,Nat.reduceLeDiff,Nat.reduceEqDiff,eq_self,t7,wm]
   refine ae.ok (ml m (by omega) _) ?_
   simp -implicitDefEqProofs only[↓reduceIte,go_sem,Nat.reduceLT,Nat.reduceEqDiff,eq_self,aS,au,et]
   have hpm:=bz 10 m (by omega)
   refine⟨by omega,by omega,by omega,by omega,?_⟩
   simp -implicitDefEqProofs only[↓reduceIte,go_sem,Nat.reduceLT,eq_self,t21]
   refine fj.cut [.arr 5 1 (ver+1+1) (aL (B++(bq m++cY w)))] [.box 165 4 0 1 [iA m,iA w.kind,iA w.i,sA w.s]] 1 rfl rfl (by simp -implicitDefEqProofs only[go_sem,eq_self]) ?_
   refine⟨ver+1+1,rfl,?_⟩
   simp -implicitDefEqProofs only[↓reduceIte,go_sem,Nat.reduceAdd,Nat.reduceLT,Nat.reduceEqDiff,eq_self,t19,t20,hw,Nat.add_assoc]
  ·rintro s H' ⟨ver,rfl,t7,t19,t20,t21⟩
   rw[show R.take R.length=R from List.take_length]at*
   simp -implicitDefEqProofs only[↓reduceIte,go_sem,Nat.reduceLT,Nat.reduceEqDiff,eq_self,t7,t20,t21]
   refine aC.ret ?_
   simp -implicitDefEqProofs only[↓reduceIte,go_sem,Nat.reduceLT,Nat.reduceEqDiff,eq_self,List.take_of_length_le (Nat.le_of_eq (au (ey R)))]
 ·rw[show sr l k=[]from if_neg hp]
  refine ah.ck (cs:=[.d (.v (.slice none 0 0)),iA (aQ l k)]) ?_ (.cons .nil (.cons (.refl _) .nil))
  refine ah.ao (hint:=(fun _=>false)) Tryz.func80 (by kernel_rfl) rfl [4,5] (by kernel_rfl) (by decide) (by simp[Tryz.ntmps80]) ?_
  rw[Tryz.ntmps80]
  simp -implicitDefEqProofs only[↓reduceIte,go_sem,Nat.reduceLT,Nat.reduceEqDiff,reduceCtorEq,eq_self]
  refine ae.ok (dW l k false _ (by omega)) ?_
  simp -implicitDefEqProofs only[↓reduceIte,go_sem,Nat.reduceLT,Nat.reduceEqDiff,eq_self,hp]
  refine aC.bC ?_
  simp -implicitDefEqProofs only[↓reduceIte,go_sem,Nat.reduceLT,Nat.reduceEqDiff,eq_self]
theorem jd(k:Int):∀(n:Nat) (b:List Nat),(aX k n b).2.2=0→(aX k n b).1.length=n
 |0,_,_=>rfl
 |n+1,b,h=>by
  unfold aX at h⊢
  split
  ·rename_i h1
   rw[if_pos h1]at h
   split
   ·rename_i h2
    simp[jd k n _ h2]
   ·rename_i h2
    rw[if_neg h2]at h
    exact absurd h h2
  ·rename_i h1
   rw[if_neg h1]at h
   exact absurd h h1
theorem jG(k:Int):∀(n:Nat) (b:List Nat),∃j,(aX k n b).2.1=b.drop j
 |0,b=>⟨0,rfl⟩
 |n+1,b=>by
  have nil:∃j,([]:List Nat)=b.drop j:=⟨b.length,by simp⟩
  unfold aX
  split
  ·split
   ·obtain⟨j,h⟩:=dX b k
    obtain⟨i,h2⟩:=jG k n (dG b k).2.1
    exact⟨j+i,by rw[h2,h,List.drop_drop]⟩
   ·exact nil
  ·exact nil
theorem vk{k:Int}{n:Nat}{b:List Nat}(h:(eQ k n b).2.2=0):eQ k n b=aX k n b∧(aX k n b).2.2=0∧kH (aX k n b).1:=by
 unfold eQ at h⊢
 split
 ·rename_i h1
  rw[if_pos h1]at h
  split
  ·rename_i h2
   exact⟨rfl,h1,h2⟩
  ·rename_i h2
   rw[if_neg h2]at h
   simp at h
 ·rename_i h1
  rw[if_neg h1]at h
  exact absurd h h1
noncomputable def vC(q:List aj×List Nat×Int)(n:Nat):List aj×List Nat×Int:=
 if q.2.2≠0 then([],[],q.2.2)
 else if bO q.2.1 n (eC q.1.length)≠0 then([],[],bO q.2.1 n (eC q.1.length))
 else if iC (bJ q.2.1 n (eC q.1.length)) q.1.length then(q.1,bJ q.2.1 n (eC q.1.length),0)else([],[],4)
noncomputable def cT(b:List Nat)(n k:Int):List aj×List Nat×Int:=
 if bT k=false then([],[],1)
 else if n<0 then([],[],2)
 else if 4096<n then([],[],2)
 else if(aN b).2.2≠0 then([],[],(aN b).2.2)
 else if n<(aN b).1 then([],[],4)
 else vC (eQ k (aN b).1 (b.drop (aN b).2.1)) n.toNat
theorem tx(b:List Nat)(n k:Int)(hl:b.length≤140737488351232)(hb:∀c∈b,c<256)(H:aa):
  ah Tryz.prog 123 [.d (.list false (aL b)),iA n,iA k] H (.ok (.bu [.d (.list false ((cT b n k).1.map aj.enc)),.d (.list false (us (cT b n k).2.1)),iA (cT b n k).2.2])) H:=by
 by_cases hk:bT k=false
 ·rw[show cT b n k=([],[],1)from if_pos hk]
  refine ah.ck (cs:=[.d (.v (.slice none 0 0)),.d (.v (.slice none 0 0)),iA 1]) ?_ (.cons .nil (.cons .nil (.cons (.refl _) .nil)))
  refine ah.ao (hint:=(fun _=>false)) Tryz.func123 (by kernel_rfl) rfl [6,7,8] (by kernel_rfl) (by decide) (by simp[Tryz.ntmps123]) ?_
  rw[Tryz.ntmps123]
  simp -implicitDefEqProofs only[↓reduceIte,go_sem,Nat.reduceLT,Nat.reduceEqDiff,eq_self]
  refine ae.ok (bK k _) ?_
  simp -implicitDefEqProofs only[↓reduceIte,go_sem,Nat.reduceLT,Nat.reduceEqDiff,Int.reduceEq,eq_self,hk,Bool.false_eq_true]
  refine aC.bC ?_
  simp -implicitDefEqProofs only[↓reduceIte,go_sem,Nat.reduceLT,Nat.reduceEqDiff,eq_self]
 rw[show cT b n k=_ from if_neg hk]
 have hk1:bT k=true:=by simpa using hk
 by_cases h1:n<0
 ·rw[if_pos h1]
  refine ah.ck (cs:=[.d (.v (.slice none 0 0)),.d (.v (.slice none 0 0)),iA 2]) ?_ (.cons .nil (.cons .nil (.cons (.refl _) .nil)))
  refine ah.ao (hint:=(fun _=>false)) Tryz.func123 (by kernel_rfl) rfl [6,7,8] (by kernel_rfl) (by decide) (by simp[Tryz.ntmps123]) ?_
  rw[Tryz.ntmps123]
  simp -implicitDefEqProofs only[↓reduceIte,go_sem,Nat.reduceLT,Nat.reduceEqDiff,eq_self]
  refine ae.ok (bK k _) ?_
  simp -implicitDefEqProofs only[↓reduceIte,go_sem,Nat.reduceLT,Nat.reduceEqDiff,eq_self,hk1,h1]
  refine aC.bC ?_
  simp -implicitDefEqProofs only[↓reduceIte,go_sem,Nat.reduceLT,Nat.reduceEqDiff,eq_self]
 rw[if_neg h1]
 by_cases h2:4096<n
 ·rw[if_pos h2]
  refine ah.ck (cs:=[.d (.v (.slice none 0 0)),.d (.v (.slice none 0 0)),iA 2]) ?_ (.cons .nil (.cons .nil (.cons (.refl _) .nil)))
  refine ah.ao (hint:=(fun _=>false)) Tryz.func123 (by kernel_rfl) rfl [6,7,8] (by kernel_rfl) (by decide) (by simp[Tryz.ntmps123]) ?_
  rw[Tryz.ntmps123]
  simp -implicitDefEqProofs only[↓reduceIte,go_sem,Nat.reduceLT,Nat.reduceEqDiff,eq_self]
  refine ae.ok (bK k _) ?_
  simp -implicitDefEqProofs only[↓reduceIte,go_sem,Nat.reduceLT,Nat.reduceEqDiff,reduceCtorEq,eq_self,hk1,h1,h2]
  refine aC.bC ?_
  simp -implicitDefEqProofs only[↓reduceIte,go_sem,Nat.reduceLT,Nat.reduceEqDiff,eq_self]
 rw[if_neg h2]
 obtain⟨N,rfl⟩:∃N:Nat,n=(N:Int):=⟨n.toNat,by omega⟩
 rw[Int.toNat_natCast]
 have h1f:((N:Int)<0)=False:=eq_false h1
 have h2f:((4096:Int)<(N:Int))=False:=eq_false h2
 have hgd:=fun H=>iY b false (by omega) hb H
 have hgl:=jH b
 have hglt:=ju b
 generalize aN b=g at*
 obtain⟨many,j,e⟩:=g
 simp only at hgd hgl hglt⊢
 have hNu:=aZ N (by omega)
 by_cases he:e=0
 ·subst he
  rw[if_neg (by simp)]
  by_cases h3:(N:Int)<(many:Int)
  ·rw[if_pos h3]
   refine ah.ck (cs:=[.d (.v (.slice none 0 0)),.d (.v (.slice none 0 0)),iA 4]) ?_ (.cons .nil (.cons .nil (.cons (.refl _) .nil)))
   refine ah.ao (hint:=(fun _=>false)) Tryz.func123 (by kernel_rfl) rfl [6,7,8] (by kernel_rfl) (by decide) (by simp[Tryz.ntmps123]) ?_
   rw[Tryz.ntmps123]
   simp -implicitDefEqProofs only[↓reduceIte,go_sem,Nat.reduceLT,Nat.reduceEqDiff,eq_self]
   refine ae.ok (bK k _) ?_
   simp -implicitDefEqProofs only[↓reduceIte,go_sem,Nat.reduceLT,Nat.reduceEqDiff,reduceCtorEq,eq_self,hk1,h1f,h2f]
   refine ae.ok (hgd _) ?_
   simp -implicitDefEqProofs only[↓reduceIte,go_sem,Nat.reduceLT,Nat.reduceEqDiff,eq_self,hNu,eq_true h3]
   refine aC.bC ?_
   simp -implicitDefEqProofs only[↓reduceIte,go_sem,Nat.reduceLT,Nat.reduceEqDiff,eq_self]
  rw[if_neg h3]
  have h3f:((N:Int)<(many:Int))=False:=eq_false h3
  have hmw:IntKind.i64.wrap (many:Int)=(many:Int):=wrap64_in _ (by omega) (by omega)
  have hj0:((0:Int)≤(j:Int))=True:=eq_true (by omega)
  have hdb:∀c∈b.drop j,c<256:=fun c hc=>hb c (List.mem_of_mem_drop hc)
  have hrd:=fun H=>y8 (b.drop j) many k (by omega) (by rw[List.length_drop];omega) hdb H
  have hro:=vk (k:=k) (n:=many) (b:=b.drop j)
  have hrl:=jd k many (b.drop j)
  obtain⟨i,hrs⟩:=jG k many (b.drop j)
  have hbt:(aL b).take b.length=aL b:=List.take_of_length_le (by rw[au];exact Nat.le_refl _)
  generalize aX k many (b.drop j)=q2 at*
  generalize eQ k many (b.drop j)=q at*
  obtain⟨W,r,f⟩:=q
  simp only at hrd hro
  by_cases hf:f=0
  ·subst hf
   obtain⟨e1,e2,e3⟩:=hro rfl
   subst e1
   have hW:W.length=many:=hrl rfl
   have hrs':r=(b.drop j).drop i:=hrs
   have hrb:∀c∈r,c<256:=fun c hc=>hdb c (List.mem_of_mem_drop (hrs'▸hc))
   have hrlen:r.length≤b.length:=by rw[hrs',List.length_drop,List.length_drop];omega
   have hwl:=sZ (n:=W.length) (by omega)
   have hun:=fun H=>kA r N (eC W.length) false (by omega) hrb (by omega) (by omega) H
   have hT:vC (W,r,0) N=if bO r N (eC W.length)≠0 then([],[],bO r N (eC W.length))else if iC (bJ r N (eC W.length)) W.length then(W,bJ r N (eC W.length),0)else([],[],4):=rfl
   have hdw:=fun H=>nU W.length (by omega) H
   have hCl:=c6 r N (eC W.length)
   have hClt:=jJ r N (eC W.length) (by omega)
   unfold ir at hun
   rw[hT]
   generalize eC W.length=wd at*
   generalize bJ r N wd=C at*
   generalize bO r N wd=z at*
   by_cases hz:z=0
   ·subst hz
    rw[if_neg (by simp)]
    have hus:=fun H=>Az C W.length H (by omega) (by omega) hClt
    rw[if_pos rfl]at hun
    cases hu:iC C W.length with
    |true=>
     rw[hu]at hus
     refine ah.ao (hint:=(fun _=>false)) Tryz.func123 (by kernel_rfl) rfl [6,7,8] (by kernel_rfl) (by decide) (by simp[Tryz.ntmps123]) ?_
     rw[Tryz.ntmps123]
     simp -implicitDefEqProofs only[↓reduceIte,go_sem,Nat.reduceLT,Nat.reduceEqDiff,eq_self]
     refine ae.ok (bK k _) ?_
     simp -implicitDefEqProofs only[↓reduceIte,go_sem,Nat.reduceLT,Nat.reduceEqDiff,reduceCtorEq,eq_self,hk1,h1f,h2f]
     refine ae.ok (hgd _) ?_
     simp -implicitDefEqProofs only[↓reduceIte,go_sem,Nat.reduceLT,Nat.reduceEqDiff,reduceCtorEq,eq_self,hNu,h3f,aS,au,hj0,hbt,dV,hmw]
     refine⟨by omega,ae.ok (hrd _) ?_⟩
     simp -implicitDefEqProofs only[↓reduceIte,go_sem,Nat.reduceLT,Nat.reduceEqDiff,eq_self,List.length_map]
     refine ae.ok (hdw _) ?_
     simp -implicitDefEqProofs only[↓reduceIte,go_sem,Nat.reduceLT,Nat.reduceEqDiff,eq_self]
     refine ae.ok (hun _) ?_
     simp -implicitDefEqProofs only[↓reduceIte,go_sem,Nat.reduceLT,Nat.reduceEqDiff,eq_self,List.length_map]
     refine ae.ok (hus _) ?_
     simp -implicitDefEqProofs only[↓reduceIte,go_sem,Nat.reduceLT,Nat.reduceEqDiff,eq_self]
     refine aC.bC ?_
     simp -implicitDefEqProofs only[↓reduceIte,go_sem,Nat.reduceLT,Nat.reduceEqDiff,eq_self]
    |false=>
     rw[hu]at hus
     rw[if_neg (by simp)]
     refine ah.ck (cs:=[.d (.v (.slice none 0 0)),.d (.v (.slice none 0 0)),iA 4]) ?_ (.cons .nil (.cons .nil (.cons (.refl _) .nil)))
     refine ah.ao (hint:=(fun _=>false)) Tryz.func123 (by kernel_rfl) rfl [6,7,8] (by kernel_rfl) (by decide) (by simp[Tryz.ntmps123]) ?_
     rw[Tryz.ntmps123]
     simp -implicitDefEqProofs only[↓reduceIte,go_sem,Nat.reduceLT,Nat.reduceEqDiff,eq_self]
     refine ae.ok (bK k _) ?_
     simp -implicitDefEqProofs only[↓reduceIte,go_sem,Nat.reduceLT,Nat.reduceEqDiff,reduceCtorEq,eq_self,hk1,h1f,h2f]
     refine ae.ok (hgd _) ?_
     simp -implicitDefEqProofs only[↓reduceIte,go_sem,Nat.reduceLT,Nat.reduceEqDiff,reduceCtorEq,eq_self,hNu,h3f,aS,au,hj0,hbt,dV,hmw]
     refine⟨by omega,ae.ok (hrd _) ?_⟩
     simp -implicitDefEqProofs only[↓reduceIte,go_sem,Nat.reduceLT,Nat.reduceEqDiff,eq_self,List.length_map]
     refine ae.ok (hdw _) ?_
     simp -implicitDefEqProofs only[↓reduceIte,go_sem,Nat.reduceLT,Nat.reduceEqDiff,eq_self]
     refine ae.ok (hun _) ?_
     simp -implicitDefEqProofs only[↓reduceIte,go_sem,Nat.reduceLT,Nat.reduceEqDiff,eq_self,List.length_map]
     refine ae.ok (hus _) ?_
     simp -implicitDefEqProofs only[↓reduceIte,go_sem,Nat.reduceLT,eq_self]
     refine aC.bC ?_
     simp -implicitDefEqProofs only[↓reduceIte,go_sem,Nat.reduceLT,Nat.reduceEqDiff,eq_self]
   ·rw[if_pos hz]
    rw[if_neg hz]at hun
    refine ah.ck (cs:=[.d (.v (.slice none 0 0)),.d (.v (.slice none 0 0)),iA z]) ?_ (.cons .nil (.cons .nil (.cons (.refl _) .nil)))
    refine ah.ao (hint:=(fun _=>false)) Tryz.func123 (by kernel_rfl) rfl [6,7,8] (by kernel_rfl) (by decide) (by simp[Tryz.ntmps123]) ?_
    rw[Tryz.ntmps123]
    simp -implicitDefEqProofs only[↓reduceIte,go_sem,Nat.reduceLT,Nat.reduceEqDiff,eq_self]
    refine ae.ok (bK k _) ?_
    simp -implicitDefEqProofs only[↓reduceIte,go_sem,Nat.reduceLT,Nat.reduceEqDiff,reduceCtorEq,eq_self,hk1,h1f,h2f]
    refine ae.ok (hgd _) ?_
    simp -implicitDefEqProofs only[↓reduceIte,go_sem,Nat.reduceLT,Nat.reduceEqDiff,reduceCtorEq,eq_self,hNu,h3f,aS,au,hj0,hbt,dV,hmw]
    refine⟨by omega,ae.ok (hrd _) ?_⟩
    simp -implicitDefEqProofs only[↓reduceIte,go_sem,Nat.reduceLT,Nat.reduceEqDiff,eq_self,List.length_map]
    refine ae.ok (hdw _) ?_
    simp -implicitDefEqProofs only[↓reduceIte,go_sem,Nat.reduceLT,Nat.reduceEqDiff,eq_self]
    refine ae.ok (hun _) ?_
    simp -implicitDefEqProofs only[↓reduceIte,go_sem,Nat.reduceLT,Nat.reduceEqDiff,eq_self,hz]
    refine aC.bC ?_
    simp -implicitDefEqProofs only[↓reduceIte,go_sem,Nat.reduceLT,Nat.reduceEqDiff,eq_self]
  ·rw[show vC (W,r,f) N=([],[],f)from if_pos hf]
   refine ah.ck (cs:=[.d (.v (.slice none 0 0)),.d (.v (.slice none 0 0)),iA f]) ?_ (.cons .nil (.cons .nil (.cons (.refl _) .nil)))
   refine ah.ao (hint:=(fun _=>false)) Tryz.func123 (by kernel_rfl) rfl [6,7,8] (by kernel_rfl) (by decide) (by simp[Tryz.ntmps123]) ?_
   rw[Tryz.ntmps123]
   simp -implicitDefEqProofs only[↓reduceIte,go_sem,Nat.reduceLT,Nat.reduceEqDiff,eq_self]
   refine ae.ok (bK k _) ?_
   simp -implicitDefEqProofs only[↓reduceIte,go_sem,Nat.reduceLT,Nat.reduceEqDiff,reduceCtorEq,eq_self,hk1,h1f,h2f]
   refine ae.ok (hgd _) ?_
   simp -implicitDefEqProofs only[↓reduceIte,go_sem,Nat.reduceLT,Nat.reduceEqDiff,reduceCtorEq,eq_self,hNu,h3f,aS,au,hj0,hbt,dV,hmw]
   refine⟨by omega,ae.ok (hrd _) ?_⟩
   simp -implicitDefEqProofs only[↓reduceIte,go_sem,Nat.reduceLT,Nat.reduceEqDiff,eq_self,hf]
   refine aC.bC ?_
   simp -implicitDefEqProofs only[↓reduceIte,go_sem,Nat.reduceLT,Nat.reduceEqDiff,eq_self]
 ·rw[if_pos he]
  refine ah.ck (cs:=[.d (.v (.slice none 0 0)),.d (.v (.slice none 0 0)),iA e]) ?_ (.cons .nil (.cons .nil (.cons (.refl _) .nil)))
  refine ah.ao (hint:=(fun _=>false)) Tryz.func123 (by kernel_rfl) rfl [6,7,8] (by kernel_rfl) (by decide) (by simp[Tryz.ntmps123]) ?_
  rw[Tryz.ntmps123]
  simp -implicitDefEqProofs only[↓reduceIte,go_sem,Nat.reduceLT,Nat.reduceEqDiff,eq_self]
  refine ae.ok (bK k _) ?_
  simp -implicitDefEqProofs only[↓reduceIte,go_sem,Nat.reduceLT,Nat.reduceEqDiff,reduceCtorEq,eq_self,hk1,h1f,h2f]
  refine ae.ok (hgd _) ?_
  simp -implicitDefEqProofs only[↓reduceIte,go_sem,Nat.reduceLT,Nat.reduceEqDiff,eq_self,he]
  refine aC.bC ?_
  simp -implicitDefEqProofs only[↓reduceIte,go_sem,Nat.reduceLT,Nat.reduceEqDiff,eq_self]
def gH(W:List aj)(C:List Nat):List aj:=C.map fun c=>W.getD c zV
noncomputable def fE(b:List Nat)(n k:Int):List aj×Int:=if(cT b n k).2.2=0 then(gH (cT b n k).1 (cT b n k).2.1,0)else([],(cT b n k).2.2)
theorem vU{C:List Nat}{n:Nat}(h:iC C n=true):∀c∈C,c<n:=fun c hc=>by
 unfold iC at h
 rw[Bool.and_eq_true,List.all_eq_true]at h
 simpa using h.1 c ((fG C c).2 hc)
theorem p5{b:List Nat}{n k:Int}{W:List aj}{C:List Nat}(h:cT b n k=(W,C,0)):
  ∃(N many j i:Nat),n=(N:Int)∧N≤4096∧bT k=true∧aN b=(many,j,0)∧many≤N∧aX k many (b.drop j)=(W,(b.drop j).drop i,0)∧kH W∧W.length=many∧
   bO ((b.drop j).drop i) N (eC W.length)=0∧C=bJ ((b.drop j).drop i) N (eC W.length)∧iC C W.length=true:=by
 unfold cT at h
 split at h
 ·simp at h
 rename_i hk
 split at h
 ·simp at h
 rename_i h1
 split at h
 ·simp at h
 rename_i h2
 split at h
 ·rename_i he
  simp only[Prod.mk.injEq]at h
  exact absurd h.2.2 he
 rename_i he
 split at h
 ·simp at h
 rename_i h3
 rcases hg:aN b with⟨many,j,e⟩
 rw[hg]at h he h3
 simp only at h he h3
 have he':e=0:=by simpa using he
 subst he'
 obtain⟨i,hrs⟩:=jG k many (b.drop j)
 have hro:=vk (k:=k) (n:=many) (b:=b.drop j)
 have hrl:=jd k many (b.drop j)
 rcases hq:eQ k many (b.drop j)with⟨W',r,f⟩
 rw[hq]at h hro
 simp only at hro
 unfold vC at h
 split at h
 ·rename_i hf
  simp only[Prod.mk.injEq]at h
  exact absurd h.2.2 hf
 rename_i hf
 have hf':f=0:=by simpa using hf
 subst hf'
 obtain⟨e1,e2,e3⟩:=hro rfl
 rw[←e1]at e3 hrs hrl
 simp only at h hrs
 split at h
 ·rename_i hz
  simp only[Prod.mk.injEq]at h
  exact absurd h.2.2 hz
 rename_i hz
 split at h
 ·rename_i hu
  simp only[Prod.mk.injEq]at h
  obtain⟨rfl,rfl,_⟩:=h
  have hW:W'.length=many:=hrl rfl
  subst hrs
  refine⟨n.toNat,many,j,i,by omega,by omega,by simpa using hk,rfl,by omega,e1.symm,e3,hW,by simpa using hz,rfl,hu⟩
 ·simp at h
theorem wV(b:List Nat)(n k:Int)(hl:b.length≤140737488351232)(hb:∀c∈b,c<256)(H:aa):
  ah Tryz.prog 86 [.d (.list false (aL b)),iA n,iA k] H (.ok (.bu [.d (.list false ((fE b n k).1.map aj.enc)),iA (fE b n k).2])) H:=by
 have htd:=fun H=>tx b n k hl hb H
 have hok:=fun W C=>p5 (b:=b) (n:=n) (k:=k) (W:=W) (C:=C)
 unfold fE
 generalize cT b n k=t at*
 obtain⟨W,C,e⟩:=t
 simp only at htd hok⊢
 by_cases he:e=0
 ·subst he
  obtain⟨N,many,j,i,rfl,hN,_,_,hmN,_,_,hW,_,hC,hu⟩:=hok W C rfl
  have hlt:=vU hu
  have hCl:C.length=N:=by rw[hC,c6]
  clear hok hC hu
  rw[if_pos rfl]
  refine ah.ao (hint:=(fun _=>false)) Tryz.func86 (by kernel_rfl) rfl [6,7] (by kernel_rfl) (by decide) (by simp[Tryz.ntmps86]) ?_
  rw[Tryz.ntmps86]
  simp -implicitDefEqProofs only[↓reduceIte,go_sem,Nat.reduceLT,Nat.reduceEqDiff,reduceCtorEq,eq_self]
  refine ae.ok (htd _) ?_
  simp -implicitDefEqProofs only[↓reduceIte,go_sem,Nat.reduceLT,Nat.reduceEqDiff,eq_self]
  refine bD (fun i s H'=>H'=H++[.arr 25 3 i ((gH W (C.take i)).map aj.enc)]∧s 8= .d (.list false (W.map aj.enc))∧s 11= .sl H.length i 0 i∧s 25= .d (.list false (us C))∧s 26=iA C.length∧s 27=iA i) C.length (by omega) (az.fg _ _ 11 25 3 (by decide) (by simp -implicitDefEqProofs only[↓reduceIte,go_sem,Nat.reduceLT,Nat.reduceEqDiff,eq_self]) _) ?_ ?_ ?_
  ·refine⟨rfl,?_⟩
   simp -implicitDefEqProofs only[↓reduceIte,go_sem,Nat.reduceLT,Nat.reduceEqDiff,eq_self,fW]
  ·rintro i s H' hi hw ⟨rfl,t8,t11,t25,t26,t27⟩
   have hx:=ni C i hi
   have hcl:=hlt _ (List.getElem_mem hi)
   have hwg:=List.getElem?_eq_getElem hcl
   have e1:gH W (C.take (i+1))=gH W (C.take i)++[W[C[i]]]:=by
    unfold gH
    rw[List.take_succ_eq_append_getElem hi,List.map_append]
    simp[List.getD,hcl]
   have hpl:(gH W (C.take i)).length=i:=by unfold gH;rw[List.length_map,List.length_take];omega
   rw[e1]
   generalize gH W (C.take i)=L at*
   generalize W[C[i]]=v at*
   generalize C[i]=c at*
   have hc0:((0:Int)≤(c:Int))=True:=eq_true (by omega)
   have hsn:L.map aj.enc++[[D.v (.int .i64 v.kind),D.v (.int .i64 v.i),D.v (.string v.s)]]=(L++[v]).map aj.enc:=by simp[aj.enc]
   simp -implicitDefEqProofs only[↓reduceIte,go_sem,Nat.reduceAdd,Nat.reduceLT,Nat.reduceLeDiff,Nat.reduceEqDiff,eq_self,t8,t11,t25,t26,t27,hi,hx,hwg,hc0,List.length_map,hpl,hsn,aj.enc]
   refine⟨by omega,by omega,?_⟩
   refine fj.same ⟨rfl,?_⟩
   simp -implicitDefEqProofs only[↓reduceIte,go_sem,Nat.reduceLT,Nat.reduceEqDiff,eq_self,t8,t25,t26,hw]
  ·rintro s H' ⟨rfl,t8,t11,t25,t26,t27⟩
   simp -implicitDefEqProofs only[↓reduceIte,go_sem,Nat.reduceLT,Nat.reduceEqDiff,eq_self,t11,t26,t27]
   refine aC.ret ?_
   rw[List.take_length]
   simp -implicitDefEqProofs only[↓reduceIte,go_sem,Nat.reduceLT,Nat.reduceEqDiff,eq_self,List.take_of_length_le (show((gH W C).map aj.enc).length≤C.length by rw[List.length_map,gH,List.length_map];omega)]
 ·rw[if_neg he]
  refine ah.ck (cs:=[.d (.v (.slice none 0 0)),iA e]) ?_ (.cons .nil (.cons (.refl _) .nil))
  refine ah.ao (hint:=(fun _=>false)) Tryz.func86 (by kernel_rfl) rfl [6,7] (by kernel_rfl) (by decide) (by simp[Tryz.ntmps86]) ?_
  rw[Tryz.ntmps86]
  simp -implicitDefEqProofs only[↓reduceIte,go_sem,Nat.reduceLT,Nat.reduceEqDiff,reduceCtorEq,eq_self]
  refine ae.ok (htd _) ?_
  simp -implicitDefEqProofs only[↓reduceIte,go_sem,Nat.reduceLT,Nat.reduceEqDiff,eq_self,he]
  refine aC.bC ?_
  simp -implicitDefEqProofs only[↓reduceIte,go_sem,Nat.reduceLT,Nat.reduceEqDiff,eq_self]
def gS(id:Nat)(k:Int):List (Int×AV):=
 [(1,.agg [.fn 75 [.ptr id 0 0 0],.fn 77 [.ptr id 0 0 0]]),(2,.agg [.fn 79 [.ptr id 0 0 0],.fn 81 [.ptr id 0 0 0]]),(3,.agg [.fn 83 [.ptr id 0 0 0],.fn 85 [.ptr id 0 0 0]])]++
 if k=1 then[(4,.agg [.fn 87 [],.fn 88 []])]else[]
theorem eO(k:Int)(H:aa):ah Tryz.prog 46 [iA k] H (.ok (.mp (H.length+1))) (H++[kB k,.mp .i64 (gS H.length k)]):=by
 by_cases h:k=1
 ·subst h
  have hM:gS H.length 1=[(1,.agg [.fn 75 [.ptr H.length 0 0 0],.fn 77 [.ptr H.length 0 0 0]]),(2,.agg [.fn 79 [.ptr H.length 0 0 0],.fn 81 [.ptr H.length 0 0 0]]),(3,.agg [.fn 83 [.ptr H.length 0 0 0],.fn 85 [.ptr H.length 0 0 0]]),(4,.agg [.fn 87 [],.fn 88 []])]:=by unfold gS;rw[if_pos rfl];rfl
  rw[hM]
  refine ah.ao (hint:=(fun _=>false)) Tryz.func46 (by kernel_rfl) rfl [2] (by kernel_rfl) (by decide) (by simp[Tryz.ntmps46]) ?_
  rw[Tryz.ntmps46]
  simp -implicitDefEqProofs only[↓reduceIte,go_sem,ai,Nat.reduceAdd,Nat.reduceLT,Nat.reduceLeDiff,Nat.reduceEqDiff,Int.reduceEq,eq_self,j4,fR]
  unfold kB
  exact⟨_,az.refl _ _,by simp -implicitDefEqProofs only[↓reduceIte,go_sem,Nat.reduceLT,eq_self]⟩
 ·have hM:gS H.length k=[(1,.agg [.fn 75 [.ptr H.length 0 0 0],.fn 77 [.ptr H.length 0 0 0]]),(2,.agg [.fn 79 [.ptr H.length 0 0 0],.fn 81 [.ptr H.length 0 0 0]]),(3,.agg [.fn 83 [.ptr H.length 0 0 0],.fn 85 [.ptr H.length 0 0 0]])]:=by unfold gS;rw[if_neg h];rfl
  rw[hM]
  refine ah.ao (hint:=(fun _=>false)) Tryz.func46 (by kernel_rfl) rfl [2] (by kernel_rfl) (by decide) (by simp[Tryz.ntmps46]) ?_
  rw[Tryz.ntmps46]
  simp -implicitDefEqProofs only[↓reduceIte,go_sem,ai,Nat.reduceAdd,Nat.reduceLT,Nat.reduceLeDiff,Nat.reduceEqDiff,Int.reduceEq,eq_self,j4,fR,h]
  unfold kB
  exact⟨_,az.refl _ _,by simp -implicitDefEqProofs only[↓reduceIte,go_sem,Nat.reduceLT,eq_self]⟩
theorem qQ(l:List aj)(k:Int)(hok:∀v∈l,dI v.i)(hl:l.length≤1000000000)(G:aa)(id:Nat)(h:G[id]?=some (kB k)):
  ah Tryz.prog 75 [.d (.list false (l.map aj.enc)),.ptr id 0 0 0] G (.ok (.bu [.d (.list false (aL (iR l k))),iA (aQ l k)])) G:=by
 have hd:=fun H=>oI l k hok H (by omega)
 unfold kB at h
 refine ah.ao (hint:=(fun _=>false)) Tryz.func75 (by kernel_rfl) rfl [3,4] (by kernel_rfl) (by decide) (by simp[Tryz.ntmps75]) ?_
 rw[Tryz.ntmps75]
 simp -implicitDefEqProofs only[↓reduceIte,go_sem,ai,Nat.reduceLT,Nat.reduceEqDiff,reduceCtorEq,eq_self,h]
 refine ae.ok (hd _) ?_
 simp -implicitDefEqProofs only[↓reduceIte,go_sem,Nat.reduceLT,Nat.reduceEqDiff,eq_self]
 refine aC.bC ?_
 simp -implicitDefEqProofs only[↓reduceIte,go_sem,Nat.reduceLT,Nat.reduceEqDiff,eq_self]
theorem ub(l:List aj)(k:Int)(hok:∀v∈l,dI v.i)(hl:l.length≤1000000000)(G:aa)(id:Nat)(h:G[id]?=some (kB k)):
  ah Tryz.prog 83 [.d (.list false (l.map aj.enc)),.ptr id 0 0 0] G (.ok (.bu [.d (.list false (aL (lF l k))),iA (aQ l k)])) G:=by
 have hd:=fun H=>pA l k hok H (by omega)
 unfold kB at h
 refine ah.ao (hint:=(fun _=>false)) Tryz.func83 (by kernel_rfl) rfl [3,4] (by kernel_rfl) (by decide) (by simp[Tryz.ntmps83]) ?_
 rw[Tryz.ntmps83]
 simp -implicitDefEqProofs only[↓reduceIte,go_sem,ai,Nat.reduceLT,Nat.reduceEqDiff,reduceCtorEq,eq_self,h]
 refine ae.ok (hd _) ?_
 simp -implicitDefEqProofs only[↓reduceIte,go_sem,Nat.reduceLT,Nat.reduceEqDiff,eq_self]
 refine aC.bC ?_
 simp -implicitDefEqProofs only[↓reduceIte,go_sem,Nat.reduceLT,Nat.reduceEqDiff,eq_self]
theorem uy(l:List aj)(k:Int)(hok:∀v∈l,dI v.i)(hl:l.length≤1000000000)(G:aa)(id:Nat)(h:G[id]?=some (kB k)):
  ah Tryz.prog 79 [.d (.list false (l.map aj.enc)),.ptr id 0 0 0] G (.ok (.bu [.d (.list false (aL (sr l k))),iA (aQ l k)])) G:=by
 have hd:=fun H=>q8 l k hok H (by omega)
 unfold kB at h
 refine ah.ao (hint:=(fun _=>false)) Tryz.func79 (by kernel_rfl) rfl [3,4] (by kernel_rfl) (by decide) (by simp[Tryz.ntmps79]) ?_
 rw[Tryz.ntmps79]
 simp -implicitDefEqProofs only[↓reduceIte,go_sem,ai,Nat.reduceLT,Nat.reduceEqDiff,reduceCtorEq,eq_self,h]
 refine ae.ok (hd _) ?_
 simp -implicitDefEqProofs only[↓reduceIte,go_sem,Nat.reduceLT,Nat.reduceEqDiff,eq_self]
 refine aC.bC ?_
 simp -implicitDefEqProofs only[↓reduceIte,go_sem,Nat.reduceLT,Nat.reduceEqDiff,eq_self]
theorem rf(b:List Nat)(n k:Int)(hl:b.length≤140737488351232)(hb:∀c∈b,c<256)(G:aa)(id:Nat)(h:G[id]?=some (kB k)):
  ah Tryz.prog 77 [.d (.list false (aL b)),iA n,.ptr id 0 0 0] G (.ok (.bu [.d (.list false ((dy b n k).1.map aj.enc)),iA (dy b n k).2])) G:=by
 have hd:=fun H=>td b n k hl hb H
 unfold kB at h
 refine ah.ao (hint:=(fun _=>false)) Tryz.func77 (by kernel_rfl) rfl [5,6] (by kernel_rfl) (by decide) (by simp[Tryz.ntmps77]) ?_
 rw[Tryz.ntmps77]
 simp -implicitDefEqProofs only[↓reduceIte,go_sem,ai,Nat.reduceLT,Nat.reduceEqDiff,reduceCtorEq,eq_self,h]
 refine ae.ok (hd _) ?_
 simp -implicitDefEqProofs only[↓reduceIte,go_sem,Nat.reduceLT,Nat.reduceEqDiff,eq_self]
 refine aC.bC ?_
 simp -implicitDefEqProofs only[↓reduceIte,go_sem,Nat.reduceLT,Nat.reduceEqDiff,eq_self]
theorem tb(b:List Nat)(n k:Int)(hl:b.length≤140737488351232)(hb:∀c∈b,c<256)(G:aa)(id:Nat)(h:G[id]?=some (kB k)):
  ah Tryz.prog 85 [.d (.list false (aL b)),iA n,.ptr id 0 0 0] G (.ok (.bu [.d (.list false ((fE b n k).1.map aj.enc)),iA (fE b n k).2])) G:=by
 have hd:=fun H=>wV b n k hl hb H
 unfold kB at h
 refine ah.ao (hint:=(fun _=>false)) Tryz.func85 (by kernel_rfl) rfl [5,6] (by kernel_rfl) (by decide) (by simp[Tryz.ntmps85]) ?_
 rw[Tryz.ntmps85]
 simp -implicitDefEqProofs only[↓reduceIte,go_sem,ai,Nat.reduceLT,Nat.reduceEqDiff,reduceCtorEq,eq_self,h]
 refine ae.ok (hd _) ?_
 simp -implicitDefEqProofs only[↓reduceIte,go_sem,Nat.reduceLT,Nat.reduceEqDiff,eq_self]
 refine aC.bC ?_
 simp -implicitDefEqProofs only[↓reduceIte,go_sem,Nat.reduceLT,Nat.reduceEqDiff,eq_self]
def pd(a b:aj):Nat:=fZ (IntKind.i64.wrap (b.i-a.i))
def bY(l:List aj):List Nat:=List.zipWith pd l l.tail
theorem fB(l:List aj):(bY l).length=l.length-1:=by simp[bY]
theorem jv(l:List aj)(k:Nat)(h:k+1<l.length):(bY l)[k]?=some (pd l[k] l[k+1]):=by
 simp[bY,List.getElem?_zipWith,List.getElem?_tail,h,show k<l.length by omega]
theorem Eb(a b:aj):pd a b<18446744073709551616:=gk (dF _).1 (dF _).2
theorem kY(l:List aj):∀n∈bY l,n<18446744073709551616:=by
 intro n hn
 obtain⟨k,hk⟩:=List.getElem?_of_mem hn
 have hlt:=(List.getElem?_eq_some_iff.1 hk).1
 rw[fB]at hlt
 rw[jv l k (by omega)]at hk
 cases hk
 exact Eb _ _
theorem xP(l:List aj)(k:Nat)(h:k+1<l.length):(bY l).take (k+1)=(bY l).take k++[pd l[k] l[k+1]]:=by
 rw[List.take_add_one,jv l k h];rfl
theorem y7(l:List aj)(nn:Bool)(H:aa)(hl:l.length≤1000000000000):ah Tryz.prog 124 [.d (.list nn (l.map aj.enc))] H (.ok (.d (.list false (us (bY l))))) H:=by
 have hsl:=fB l
 refine ah.ao (hint:=(fun _=>false)) Tryz.func124 (by kernel_rfl) rfl [2] (by kernel_rfl) (by decide) (by simp[Tryz.ntmps124]) ?_
 rw[Tryz.ntmps124]
 simp -implicitDefEqProofs only[go_sem]
 refine fP (fun k s H'=>H'=H++[.arr 49 1 k (us ((bY l).take k))]∧s 0= .d (.list nn (l.map aj.enc))∧s 3= .sl H.length k 0 k∧s 4=iA ((k:Int)+1)) (l.length-1) (by omega) (az.fg _ _ 3 49 1 (by decide) (by simp -implicitDefEqProofs only[↓reduceIte,go_sem,Nat.reduceLT,Nat.reduceEqDiff,eq_self]) _) ?_ ?_ ?_
 ·refine⟨?_,?_⟩
  ·simp -implicitDefEqProofs only[go_sem,eq_self,List.take_zero,Hm]
  ·simp -implicitDefEqProofs only[↓reduceIte,go_sem,Nat.reduceLT,Nat.reduceEqDiff,Int.reduceAdd,reduceCtorEq,eq_self]
 ·rintro k s H' hk hw ⟨rfl,t0,t3,t4⟩
  have hk1:k<l.length:=by omega
  have hk2:k+1<l.length:=by omega
  have hx:=List.getElem?_eq_getElem hk1
  have hy:=List.getElem?_eq_getElem hk2
  have hs:=xP l k hk2
  generalize l[k]=x at hx hs
  generalize l[k+1]=y at hy hs
  have hlen:((bY l).take k).length=k:=by simp;omega
  have hw2:IntKind.i64.wrap ((k:Int)+1-1)=(k:Int):=by rw[wrap64_in _ (by omega) (by omega)];omega
  have hw3:IntKind.i64.wrap ((k:Int)+1+1)=(k:Int)+1+1:=wrap64_in _ (by omega) (by omega)
  have hc:((k:Int)+1<(l.length:Int))=True:=eq_true (by omega)
  have ht:((k:Int)+1).toNat=k+1:=by omega
  have hp:(0≤(k:Int)+1)=True:=eq_true (by omega)
  generalize (bY l).take k=L at hs hlen
  simp -implicitDefEqProofs only[↓reduceIte,go_sem,Nat.reduceLT,Nat.reduceEqDiff,reduceCtorEq,eq_self,t0,t4,hc]
  refine gA 15 K.mixed (by kernel_rfl) (by kernel_rfl) ?_
  simp -implicitDefEqProofs only[↓reduceIte,go_sem,Nat.reduceAdd,Nat.reduceLT,Nat.reduceLeDiff,Nat.reduceEqDiff,reduceCtorEq,eq_self,t0,t3,t4,hw2,hx,hy,ht,hp,aj.enc]
  refine ae.ok (po _ (dF _).1 (dF _).2 _) ?_
  simp -implicitDefEqProofs only[↓reduceIte,go_sem,Nat.reduceLT,Nat.reduceLeDiff,Nat.reduceEqDiff,eq_self,fW,hlen,t4,su]
  refine⟨by omega,by omega,fj.same ⟨?_,?_⟩⟩
  ·rw[hs];rfl
  ·simp -implicitDefEqProofs only[↓reduceIte,go_sem,Nat.reduceLT,Nat.reduceEqDiff,reduceCtorEq,eq_self,t0,hw3]
   trace_state
 ·rintro s H' ⟨rfl,t0,t3,t4⟩
  have hc:(((l.length-1:Nat):Int)+1<(l.length:Int))=False:=eq_false (by omega)
  simp -implicitDefEqProofs only[↓reduceIte,go_sem,Nat.reduceLT,Nat.reduceEqDiff,reduceCtorEq,eq_self,t0,t3,t4,hc]
  refine aC.ret ?_
  simp -implicitDefEqProofs only[↓reduceIte,go_sem,Nat.reduceLT,eq_self,dK,fW,hsl]
def gI(l:List aj):List Nat:=match l with
 |[]=>[]
 |v::_=>bq (fZ v.i)++bq (db (bY l))++cN (bY l) (db (bY l))
def pn(l:List aj):AV:=if aQ l 1=0∧l≠[]then .bu [.d (.list false (aL (gI l))),iA 0]else .bu [.d (.v (.slice none 0 0)),iA (aQ l 1)]
theorem wb(l:List aj)(hok:∀v∈l,dI v.i)(nn:Bool)(H:aa)(hl:l.length≤1000000000000):ah Tryz.prog 87 [.d (.list nn (l.map aj.enc))] H (.ok (pn l)) H:=by
 have hbad:∀b:Bool,b=true∨b=false:=by decide
 refine ah.ao (hint:=(fun _=>false)) Tryz.func87 (by kernel_rfl) rfl [2,3] (by kernel_rfl) (by decide) (by simp[Tryz.ntmps87]) ?_
 rw[Tryz.ntmps87]
 simp -implicitDefEqProofs only[↓reduceIte,go_sem,Nat.reduceLT,reduceCtorEq,eq_self]
 refine ae.ok (dW l 1 nn _ (by omega)) ?_
 by_cases h1:aQ l 1=0
 ·cases l with
  |nil=>
   simp -implicitDefEqProofs only[↓reduceIte,go_sem,Nat.reduceLT,Nat.reduceEqDiff,reduceCtorEq,eq_self,h1]
   refine aC.bC ?_
   simp -implicitDefEqProofs only[↓reduceIte,go_sem,Nat.reduceLT,Nat.reduceEqDiff,eq_self,pn,h1,Ne,not_true,and_false]
  |cons v r=>
   have hs:=fB (v::r)
   have h4:=eg h1
   have hl0:(((v::r).length:Nat):Int)=0↔False:=by simp;omega
   have hll:=hok v (by simp)
   have hss:=kY (v::r)
   simp -implicitDefEqProofs only[↓reduceIte,go_sem,Nat.reduceLT,Nat.reduceEqDiff,reduceCtorEq,eq_self,h1,show(((r.length:Nat):Int)+1=0)=False from eq_false (by omega)]
   refine ae.ok (y7 (v::r) nn _ hl) ?_
   simp -implicitDefEqProofs only[↓reduceIte,go_sem,Nat.reduceLT,eq_self]
   refine ae.ok (lZ _ false _ (by omega) hss) ?_
   have hw64:=kN hss
   have hfit:=og (l:=bY (v::r))
   have hzl:=gk hll.1 hll.2
   have hb:gI (v::r)=bq (fZ v.i)++bq (db (bY (v::r)))++cN (bY (v::r)) (db (bY (v::r))):=rfl
   generalize db (bY (v::r))=w at*
   generalize bY (v::r)=S at*
   simp -implicitDefEqProofs only[↓reduceIte,go_sem,Nat.reduceAdd,Nat.reduceLT,Nat.reduceLeDiff,Int.reduceLE,Int.reduceToNat,reduceCtorEq,eq_self,aj.enc]
   refine ae.ok (po _ hll.1 hll.2 _) ?_
   simp -implicitDefEqProofs only[↓reduceIte,go_sem,Nat.reduceLT,eq_self]
   refine ae.ok (fS _ hzl _) ?_
   simp -implicitDefEqProofs only[↓reduceIte,go_sem,Nat.reduceLT,Nat.reduceEqDiff,eq_self,aZ w (by omega)]
   refine ae.ok (ml w (by omega) _) ?_
   have l1:=bz 10 (fZ v.i) (by omega)
   have l2:=bz 10 w (by omega)
   simp -implicitDefEqProofs only[↓reduceIte,go_sem,Nat.reduceLT,Nat.reduceEqDiff,eq_self,aS,au,et]
   refine⟨by omega,by omega,?_⟩
   refine ae.ok (r5 S w hw64 hfit (by omega) false _) ?_
   simp -implicitDefEqProofs only[↓reduceIte,go_sem,Nat.reduceLT,Nat.reduceEqDiff,eq_self,aS,au,et,List.length_append]
   have l3:(cN S w).length≤100000:=by
    rw[cN,cF,en]
    have:S.length* w≤4096* 64:=Nat.mul_le_mul (by omega) hw64
    omega
   refine⟨by omega,by omega,aC.ret ?_⟩
   have ht:(aL (bq (fZ v.i)++(bq w++cN S w))).take ((bq (fZ v.i)).length+(bq w).length+(cN S w).length)=aL (bq (fZ v.i)++(bq w++cN S w)):=dK _ _ (by rw[au,List.length_append,List.length_append];omega)
   simp -implicitDefEqProofs only[↓reduceIte,go_sem,Nat.reduceLT,Nat.reduceEqDiff,reduceCtorEq,eq_self,pn,h1,hb,ht,Ne,not_false_eq_true,and_self]
 ·simp -implicitDefEqProofs only[↓reduceIte,go_sem,Nat.reduceLT,Nat.reduceEqDiff,eq_self,h1]
  refine aC.bC ?_
  simp -implicitDefEqProofs only[↓reduceIte,go_sem,Nat.reduceLT,Nat.reduceEqDiff,eq_self,pn,h1,false_and]
def kI(l:List aj):List Nat:=if aQ l 1=0∧l≠[]then gI l else[]
def cj(l:List aj)(k w:Int):List Nat×Int:=
 if w=1 then(iR l k,aQ l k)else if w=2 then(sr l k,aQ l k)else if w=3 then(lF l k,aQ l k)
 else if w=4∧k=1 then(kI l,aQ l 1)else([],1)
theorem tT(l:List aj)(hok:∀v∈l,dI v.i)(nn:Bool)(H:aa)(hl:l.length≤1000000000000):ah Tryz.prog 87 [.d (.list nn (l.map aj.enc))] H (.ok (.bu [.d (.list false (aL (kI l))),iA (aQ l 1)])) H:=by
 have h:=wb l hok nn H hl
 unfold pn at h
 unfold kI
 by_cases c:aQ l 1=0∧l≠[]
 ·rw[if_pos c]at h⊢
  rw[c.1]
  exact h
 ·rw[if_neg c]at h⊢
  exact ah.ck h (.cons .nil (.cons (.refl _) .nil))
def sD(id:Nat)(k w:Int):Option AV:=
 if w=1 then some (.agg [.fn 75 [.ptr id 0 0 0],.fn 77 [.ptr id 0 0 0]])
 else if w=2 then some (.agg [.fn 79 [.ptr id 0 0 0],.fn 81 [.ptr id 0 0 0]])
 else if w=3 then some (.agg [.fn 83 [.ptr id 0 0 0],.fn 85 [.ptr id 0 0 0]])
 else if w=4∧k=1 then some (.agg [.fn 87 [],.fn 88 []])else none
theorem pN(id:Nat)(k w:Int):fh w (gS id k)=sD id k w:=by
 unfold gS sD
 by_cases h1:w=1
 ·subst h1;rfl
 by_cases h2:w=2
 ·subst h2;rfl
 by_cases h3:w=3
 ·subst h3;rfl
 rw[if_neg h1,if_neg h2,if_neg h3]
 by_cases hk:k=1
 ·subst hk
  by_cases h4:w=4
  ·subst h4;rfl
  ·simp[fh,fR,h1,h2,h3,h4]
 ·rw[if_neg hk,if_neg (fun h=>hk h.2)]
  simp[fh,fR,h1,h2,h3]
theorem rv(l:List aj)(k w:Int)(hok:∀v∈l,dI v.i)(hl:l.length≤1000000000)(H:aa):
  ah Tryz.prog 31 [.d (.list false (l.map aj.enc)),iA k,iA w] H (.ok (.bu [.d (.list false (aL (cj l k w).1)),iA (cj l k w).2])) H:=by
 have hg:=fun id=>pN id k w
 unfold sD at hg
 unfold cj
 have hk:∀T:aa,((H++kB k::T):aa)[H.length]?=some (kB k):=fun T=>by simp
 by_cases h1:w=1
 ·subst h1
  simp only[if_true]at hg⊢
  refine ah.ao (hint:=(fun _=>false)) Tryz.func31 (by kernel_rfl) rfl [6,7] (by kernel_rfl) (by decide) (by simp[Tryz.ntmps31]) ?_
  rw[Tryz.ntmps31]
  simp -implicitDefEqProofs only[↓reduceIte,go_sem,Nat.reduceLT,Nat.reduceEqDiff,eq_self]
  refine ae.ok (eO k _) ?_
  simp -implicitDefEqProofs only[↓reduceIte,go_sem,ai,aq,Nat.reduceAdd,Nat.reduceLT,Nat.reduceLeDiff,Nat.reduceEqDiff,reduceCtorEq,eq_self,hg,Option.getD_some,Option.isSome_some]
  refine ae.ok (qQ l k hok hl _ H.length (hk _)) ?_
  simp -implicitDefEqProofs only[↓reduceIte,go_sem,Nat.reduceLT,Nat.reduceEqDiff,eq_self]
  refine aC.ret ?_
  simp -implicitDefEqProofs only[↓reduceIte,go_sem,Nat.reduceLT,Nat.reduceEqDiff,eq_self]
 rw[if_neg h1]at⊢
 simp only[if_neg h1]at hg
 by_cases h2:w=2
 ·subst h2
  simp only[if_true]at hg⊢
  refine ah.ao (hint:=(fun _=>false)) Tryz.func31 (by kernel_rfl) rfl [6,7] (by kernel_rfl) (by decide) (by simp[Tryz.ntmps31]) ?_
  rw[Tryz.ntmps31]
  simp -implicitDefEqProofs only[↓reduceIte,go_sem,Nat.reduceLT,Nat.reduceEqDiff,eq_self]
  refine ae.ok (eO k _) ?_
  simp -implicitDefEqProofs only[↓reduceIte,go_sem,ai,aq,Nat.reduceAdd,Nat.reduceLT,Nat.reduceLeDiff,Nat.reduceEqDiff,reduceCtorEq,eq_self,hg,Option.getD_some,Option.isSome_some]
  refine ae.ok (uy l k hok hl _ H.length (hk _)) ?_
  simp -implicitDefEqProofs only[↓reduceIte,go_sem,Nat.reduceLT,Nat.reduceEqDiff,eq_self]
  refine aC.ret ?_
  simp -implicitDefEqProofs only[↓reduceIte,go_sem,Nat.reduceLT,Nat.reduceEqDiff,eq_self]
 rw[if_neg h2]at⊢
 simp only[if_neg h2]at hg
 by_cases h3:w=3
 ·subst h3
  simp only[if_true]at hg⊢
  refine ah.ao (hint:=(fun _=>false)) Tryz.func31 (by kernel_rfl) rfl [6,7] (by kernel_rfl) (by decide) (by simp[Tryz.ntmps31]) ?_
  rw[Tryz.ntmps31]
  simp -implicitDefEqProofs only[↓reduceIte,go_sem,Nat.reduceLT,Nat.reduceEqDiff,eq_self]
  refine ae.ok (eO k _) ?_
  simp -implicitDefEqProofs only[↓reduceIte,go_sem,ai,aq,Nat.reduceAdd,Nat.reduceLT,Nat.reduceLeDiff,Nat.reduceEqDiff,reduceCtorEq,eq_self,hg,Option.getD_some,Option.isSome_some]
  refine ae.ok (ub l k hok hl _ H.length (hk _)) ?_
  simp -implicitDefEqProofs only[↓reduceIte,go_sem,Nat.reduceLT,Nat.reduceEqDiff,eq_self]
  refine aC.ret ?_
  simp -implicitDefEqProofs only[↓reduceIte,go_sem,Nat.reduceLT,Nat.reduceEqDiff,eq_self]
 rw[if_neg h3]at⊢
 simp only[if_neg h3]at hg
 by_cases h4:w=4∧k=1
 ·simp only[if_pos h4]at hg⊢
  refine ah.ao (hint:=(fun _=>false)) Tryz.func31 (by kernel_rfl) rfl [6,7] (by kernel_rfl) (by decide) (by simp[Tryz.ntmps31]) ?_
  rw[Tryz.ntmps31]
  simp -implicitDefEqProofs only[↓reduceIte,go_sem,Nat.reduceLT,Nat.reduceEqDiff,eq_self]
  refine ae.ok (eO k _) ?_
  simp -implicitDefEqProofs only[↓reduceIte,go_sem,ai,aq,Nat.reduceAdd,Nat.reduceLT,Nat.reduceLeDiff,Nat.reduceEqDiff,reduceCtorEq,eq_self,hg,Option.getD_some,Option.isSome_some]
  refine ae.ok (tT l hok false _ (by omega)) ?_
  simp -implicitDefEqProofs only[↓reduceIte,go_sem,Nat.reduceLT,Nat.reduceEqDiff,eq_self]
  refine aC.ret ?_
  simp -implicitDefEqProofs only[↓reduceIte,go_sem,Nat.reduceLT,Nat.reduceEqDiff,eq_self]
 simp only[if_neg h4]at hg⊢
 refine ah.ck (cs:=[.d (.v (.slice none 0 0)),iA 1]) ?_ (.cons .nil (.cons (.refl _) .nil))
 refine ah.ao (hint:=(fun _=>false)) Tryz.func31 (by kernel_rfl) rfl [6,7] (by kernel_rfl) (by decide) (by simp[Tryz.ntmps31]) ?_
 rw[Tryz.ntmps31]
 simp -implicitDefEqProofs only[↓reduceIte,go_sem,Nat.reduceLT,Nat.reduceEqDiff,eq_self]
 refine ae.ok (eO k _) ?_
 simp -implicitDefEqProofs only[↓reduceIte,go_sem,aq,Nat.reduceAdd,Nat.reduceLT,Nat.reduceEqDiff,eq_self,hg,Option.getD_none,Option.isSome_none]
 refine aC.ret ?_
 simp -implicitDefEqProofs only[↓reduceIte,go_sem,Nat.reduceLT,Nat.reduceEqDiff,eq_self]
def lL(l:List aj)(k:Int)(x:Int×Int)(c:Int):Int×Int:=if(cj l k c).2=0∧(x.1<0∨((cj l k c).1.length:Int)<x.1)then((cj l k c).1.length,c)else x
def dZ(l:List aj)(k:Int):Nat→Int×Int
 |0=>(-1,0)
 |n+1=>lL l k (dZ l k n) ((n:Int)+1)
def pS(l:List aj)(k:Int):Int:=(dZ l k 4).2
theorem AM(l:List aj)(k:Int)(hok:∀v∈l,dI v.i)(hl:l.length≤1000000000)(H:aa):
  ah Tryz.prog 30 [.d (.list false (l.map aj.enc)),iA k] H (.ok (iA (pS l k))) H:=by
 have hb:=fun w H=>rv l k w hok hl H
 have hst:∀n,dZ l k (n+1)=lL l k (dZ l k n) ((n:Int)+1):=fun n=>rfl
 have hfin:pS l k=(dZ l k 4).2:=rfl
 rw[hfin]
 have h0:dZ l k 0=(-1,0):=rfl
 generalize dZ l k=st at*
 refine ah.ao (hint:=(fun _=>false)) Tryz.func30 (by kernel_rfl) rfl [4] (by kernel_rfl) (by decide) (by simp[Tryz.ntmps30]) ?_
 rw[Tryz.ntmps30]
 simp -implicitDefEqProofs only[go_sem,Int.reduceNeg]
 refine cK _ _ _ _ (fun(n:Nat) s H'=>H'=H∧n≤4∧s 0= .d (.list false (l.map aj.enc))∧s 1=iA k∧s 5=iA (st n).1∧s 6=iA (st n).2∧s 7=iA ((n:Int)+1)) (fun n=>4-n) 0 (az.refl _ _) ?_ ?_
 ·refine⟨rfl,by omega,?_⟩
  rw[h0]
  simp -implicitDefEqProofs only[↓reduceIte,go_sem,Nat.reduceLT,Nat.reduceEqDiff,Int.reduceAdd,Int.reduceNeg,reduceCtorEq,eq_self]
 ·rintro n s H' ⟨rfl,hn,t0,t1,t5,t6,t7⟩
  by_cases h4:n<4
  ·have hs:=hst n
   have hb1:=hb ((n:Int)+1)
   have wn:IntKind.i64.wrap ((n:Int)+1+1)=(n:Int)+1+1:=wrap64_in _ (by omega) (by omega)
   unfold lL at hs
   generalize st n=x at*
   obtain⟨x1,x2⟩:=x
   simp only at hs t5 t6
   generalize hbp:cj l k ((n:Int)+1)=q at*
   obtain⟨bs,e⟩:=q
   simp only at hs hb1
   simp -implicitDefEqProofs only[↓reduceIte,go_sem,Nat.reduceLT,Nat.reduceEqDiff,reduceCtorEq,eq_self,t0,t1,t7,show(((n:Int)+1)≤4)=True from eq_true (by omega)]
   refine ae.ok (hb1 _) ?_
   by_cases he:e=0
   ·by_cases h1:x1<0
    ·rw[if_pos ⟨he,.inl h1⟩]at hs
     simp -implicitDefEqProofs only[↓reduceIte,go_sem,Nat.reduceLT,Nat.reduceEqDiff,eq_self,t5,t7,he,h1,au,wn]
     refine⟨_,_,n+1,az.refl _ _,⟨rfl,by omega,?_⟩,by omega⟩
     rw[hs]
     simp -implicitDefEqProofs only[↓reduceIte,go_sem,Nat.reduceLT,Nat.reduceEqDiff,reduceCtorEq,eq_self,t0,t1]
    ·by_cases h2:(bs.length:Int)<x1
     ·rw[if_pos ⟨he,.inr h2⟩]at hs
      simp -implicitDefEqProofs only[↓reduceIte,go_sem,Nat.reduceLT,Nat.reduceEqDiff,reduceCtorEq,eq_self,t5,t7,he,h1,h2,au,wn]
      refine⟨_,_,n+1,az.refl _ _,⟨rfl,by omega,?_⟩,by omega⟩
      rw[hs]
      simp -implicitDefEqProofs only[↓reduceIte,go_sem,Nat.reduceLT,Nat.reduceEqDiff,reduceCtorEq,eq_self,t0,t1]
     ·rw[if_neg (fun h=>h.2.elim h1 h2)]at hs
      simp -implicitDefEqProofs only[↓reduceIte,go_sem,Nat.reduceLT,Nat.reduceEqDiff,reduceCtorEq,eq_self,t5,t7,he,h1,h2,au,wn]
      refine⟨_,_,n+1,az.refl _ _,⟨rfl,by omega,?_⟩,by omega⟩
      rw[hs]
      simp -implicitDefEqProofs only[↓reduceIte,go_sem,Nat.reduceLT,Nat.reduceEqDiff,reduceCtorEq,eq_self,t0,t1,t5,t6]
   ·rw[if_neg (fun h=>he h.1)]at hs
    simp -implicitDefEqProofs only[↓reduceIte,go_sem,Nat.reduceLT,Nat.reduceEqDiff,reduceCtorEq,eq_self,t7,he,wn]
    refine⟨_,_,n+1,az.refl _ _,⟨rfl,by omega,?_⟩,by omega⟩
    rw[hs]
    simp -implicitDefEqProofs only[↓reduceIte,go_sem,Nat.reduceLT,Nat.reduceEqDiff,reduceCtorEq,eq_self,t0,t1,t5,t6]
  ·obtain rfl:n=4:=by omega
   simp -implicitDefEqProofs only[↓reduceIte,go_sem,Nat.reduceLT,Nat.reduceEqDiff,Int.reduceLE,Int.reduceAdd,eq_self,t6,t7]
   refine aC.bC ?_
   simp -implicitDefEqProofs only[↓reduceIte,go_sem,Nat.reduceLT,eq_self]
def bZ(l:List Bool):List (List D):=l.map fun b=>[.v (.bool b)]
theorem di(l:List Bool):(bZ l).length=l.length:=by simp[bZ]
theorem nc(l:List Bool)(k:Nat)(h:k<l.length):(bZ l)[k]?=some [.v (.bool l[k])]:=by simp[bZ,h]
theorem pX(l:List Bool)(b:Bool):bZ l++[[.v (.bool b)]]=bZ (l++[b]):=by simp[bZ]
def aJ(l:List Bool):Nat:=l.countP (·==true)
theorem sO(l:List Bool)(b:Bool):aJ (l++[b])=if b then aJ l+1 else aJ l:=by
 unfold aJ
 rw[List.countP_append]
 cases b<;>simp
theorem fC(l:List Bool):aJ l≤l.length:=List.countP_le_length
theorem ql(l:List Bool)(nn:Bool)(hl:l.length≤1000000000000)(H:aa):ah Tryz.prog 47 [.d (.list nn (bZ l))] H (.ok (iA (aJ l))) H:=by
 refine ah.ao (hint:=(fun _=>false)) Tryz.func47 (by kernel_rfl) rfl [2] (by kernel_rfl) (by decide) (by simp[Tryz.ntmps47]) ?_
 rw[Tryz.ntmps47]
 simp -implicitDefEqProofs only[↓reduceIte,go_sem,Nat.reduceLT,reduceCtorEq,eq_self]
 refine bD (fun k s H'=>H'=H∧s 3=iA (aJ (l.take k))∧s 6= .d (.list nn (bZ l))∧s 7=iA l.length∧s 8=iA k) l.length (by omega) (az.refl _ _) ?_ ?_ ?_
 ·refine⟨rfl,?_⟩
  simp -implicitDefEqProofs only[↓reduceIte,go_sem,Nat.reduceLT,Nat.reduceEqDiff,eq_self,di]
  rfl
 ·rintro k s H' hk hw ⟨rfl,t3,t6,t7,t8⟩
  have hx:=nc l k hk
  have e1:=sO (l.take k) l[k]
  rw[←List.take_succ_eq_append_getElem hk]at e1
  have hle:=fC (l.take k)
  rw[List.length_take]at hle
  rw[e1]
  generalize l[k]=b at*
  generalize aJ (l.take k)=c at*
  have wc:IntKind.i64.wrap ((c:Int)+1)=((c+1:Nat):Int):=by rw[wrap64_in _ (by omega) (by omega)];rfl
  cases b with
  |true=>
   simp -implicitDefEqProofs only[↓reduceIte,go_sem,Nat.reduceLT,Nat.reduceEqDiff,eq_self,t3,t6,t7,t8,hk,hx,wc]
   refine fj.same ⟨rfl,?_⟩
   simp -implicitDefEqProofs only[↓reduceIte,go_sem,Nat.reduceLT,Nat.reduceEqDiff,eq_self,t6,t7,hw]
  |false=>
   simp -implicitDefEqProofs only[↓reduceIte,go_sem,Nat.reduceLT,Nat.reduceEqDiff,reduceCtorEq,eq_self,t6,t7,t8,hk,hx]
   refine fj.same ⟨rfl,?_⟩
   simp -implicitDefEqProofs only[↓reduceIte,go_sem,Nat.reduceLT,Nat.reduceEqDiff,eq_self,t3,t6,t7,hw]
 ·rintro s H' ⟨rfl,t3,t6,t7,t8⟩
  rw[List.take_length]at t3
  simp -implicitDefEqProofs only[↓reduceIte,go_sem,Nat.reduceLT,Nat.reduceEqDiff,eq_self,t3,t7,t8]
  refine aC.bC ?_
  simp -implicitDefEqProofs only[↓reduceIte,go_sem,Nat.reduceLT,eq_self]
theorem wL(l:List Bool)(nn:Bool)(hl:l.length≤1000000)(H:aa):ah Tryz.prog 35 [.d (.list nn (bZ l))] H (.ok (.d (.list false (aL (cg l))))) H:=by
 have z0:wH H []=H++[.box 125 2 0 1 [.sl (H.length+1) 0 0 0,iA 0],.arr 5 1 0 []]:=rfl
 refine ah.ao (hint:=(fun t=>t==1000002)) Tryz.func35 (by kernel_rfl) rfl [2] (by kernel_rfl) (by decide) (by simp[Tryz.ntmps35]) ?_
 rw[Tryz.ntmps35]
 simp -implicitDefEqProofs only[↓reduceIte,go_sem,Nat.reduceAdd,Nat.reduceLT,Nat.reduceBEq,eq_self]
 refine⟨_,_,az.kT _ _ H.length 125 2 0 1 [.d (.v (.slice none 0 0)),iA 0] 0 _ 5 1 (by decide) (by simp) rfl rfl,?_⟩
 simp -implicitDefEqProofs only[↓reduceIte,go_sem,reduceCtorEq]
 rw[←z0]
 refine bD (fun k s H'=>H'=wH H (l.take k)∧s 3= .ptr H.length 0 0 0∧s 9= .d (.list nn (bZ l))∧s 10=iA l.length∧s 11=iA k) l.length (by omega) (az.refl _ _) ?_ ?_ ?_
 ·refine⟨rfl,?_⟩
  simp -implicitDefEqProofs only[↓reduceIte,go_sem,Nat.reduceLT,Nat.reduceEqDiff,reduceCtorEq,eq_self,di]
 ·rintro k s H' hk hw ⟨rfl,t3,t9,t10,t11⟩
  have hx:=nc l k hk
  have e1:=List.take_succ_eq_append_getElem hk
  have b1:cU 1 1=[true]:=by decide
  have b0:cU 0 1=[false]:=by decide
  have hp1:=kQ 1 1 (by decide) (by decide) H (l.take k) (by rw[List.length_take];omega)
  have hp0:=kQ 0 1 (by decide) (by decide) H (l.take k) (by rw[List.length_take];omega)
  rw[b1]at hp1
  rw[b0]at hp0
  rw[e1]
  generalize l[k]=b at*
  cases b with
  |true=>
   simp -implicitDefEqProofs only[↓reduceIte,go_sem,Nat.reduceAdd,Nat.reduceLT,Nat.reduceEqDiff,Nat.reduceBEq,eq_self,t3,t9,t10,t11,hk,hx]
   refine ae.ok hp1 ?_
   simp -implicitDefEqProofs only[↓reduceIte,go_sem,Nat.reduceAdd,Nat.reduceLT,Nat.reduceEqDiff,Nat.reduceBEq,eq_self,t11]
   refine fj.same ⟨rfl,?_⟩
   simp -implicitDefEqProofs only[↓reduceIte,go_sem,Nat.reduceLT,Nat.reduceEqDiff,eq_self,t3,t9,t10,hw]
  |false=>
   simp -implicitDefEqProofs only[↓reduceIte,go_sem,Nat.reduceAdd,Nat.reduceLT,Nat.reduceEqDiff,Nat.reduceBEq,eq_self,t3,t9,t10,t11,hk,hx]
   refine ae.ok hp0 ?_
   simp -implicitDefEqProofs only[↓reduceIte,go_sem,Nat.reduceAdd,Nat.reduceLT,Nat.reduceEqDiff,Nat.reduceBEq,eq_self,t11]
   refine fj.same ⟨rfl,?_⟩
   simp -implicitDefEqProofs only[↓reduceIte,go_sem,Nat.reduceLT,Nat.reduceEqDiff,eq_self,t3,t9,t10,hw]
 ·rintro s H' ⟨rfl,t3,t9,t10,t11⟩
  rw[List.take_length]
  simp -implicitDefEqProofs only[↓reduceIte,go_sem,Nat.reduceAdd,Nat.reduceLT,Nat.reduceEqDiff,Nat.reduceBEq,eq_self,t3,t10,t11]
  refine ae.ok (oq H l (by omega)) ?_
  simp -implicitDefEqProofs only[↓reduceIte,go_sem,Nat.reduceLT,eq_self]
  unfold wH
  refine aC.ret ?_
  simp -implicitDefEqProofs only[↓reduceIte,go_sem,Nat.reduceLT,eq_self]
def uW(b:List Nat)(n:Nat):List Bool:=(bJ b n 1).map fun x=>decide (x=1)
theorem EC(b:List Nat)(n:Nat)(hl:b.length≤140737488351232)(hb:∀c∈b,c<256)(hn:n≤1048576)(H:aa):
  ah Tryz.prog 44 [.d (.list false (aL b)),iA n] H (.ok (.bu [.d (.list false (bZ (if bO b n 1=0 then uW b n else[]))),iA (bO b n 1)])) H:=by
 have hu:=fun H=>kA b n 1 false hl hb hn (by decide) H
 have hLl:=c6 b n 1
 have hLt:=jJ b n 1 (by decide)
 unfold ir at hu
 unfold uW
 generalize bJ b n 1=L at*
 generalize bO b n 1=e at*
 by_cases he:e=0
 ·subst he
  rw[if_pos rfl]at hu
  rw[if_pos rfl]
  refine ah.ao (hint:=(fun _=>false)) Tryz.func44 (by kernel_rfl) rfl [4,5] (by kernel_rfl) (by decide) (by simp[Tryz.ntmps44]) ?_
  rw[Tryz.ntmps44]
  simp -implicitDefEqProofs only[↓reduceIte,go_sem,Nat.reduceLT,Nat.reduceEqDiff,reduceCtorEq,eq_self]
  refine ae.ok (hu _) ?_
  simp -implicitDefEqProofs only[↓reduceIte,go_sem,Nat.reduceLT,Nat.reduceEqDiff,eq_self]
  refine bD (fun k s H'=>H'=H++[.arr 4 1 k (bZ ((L.take k).map fun x=>decide (x=1)))]∧s 8= .sl H.length k 0 k∧s 20= .d (.list false (us L))∧s 21=iA L.length∧s 22=iA k) L.length (by omega) (az.fg _ _ 8 4 1 (by decide) (by simp -implicitDefEqProofs only[↓reduceIte,go_sem,Nat.reduceLT,Nat.reduceEqDiff,eq_self]) _) ?_ ?_ ?_
  ·refine⟨rfl,?_⟩
   simp -implicitDefEqProofs only[↓reduceIte,go_sem,Nat.reduceLT,Nat.reduceEqDiff,eq_self,fW]
  ·rintro k s H' hk hw ⟨rfl,t8,t20,t21,t22⟩
   have hx:=ni L k hk
   have e1:(L.take (k+1)).map (fun x=>decide (x=1))=(L.take k).map (fun x=>decide (x=1))++[decide (L[k]=1)]:=by rw[List.take_succ_eq_append_getElem hk,List.map_append];rfl
   have hml:((L.take k).map fun x=>decide (x=1)).length=k:=by rw[List.length_map,List.length_take];omega
   have hd:decide ((L[k]:Int)=1)=decide (L[k]=1):=decide_eq_decide.2 (by omega)
   rw[e1]
   generalize (L.take k).map (fun x=>decide (x=1))=B at*
   generalize hdv:decide (L[k]=1)=dv at*
   simp -implicitDefEqProofs only[↓reduceIte,go_sem,Nat.reduceLT,Nat.reduceLeDiff,Nat.reduceEqDiff,eq_self,t8,t20,t21,t22,hk,hx,hd,di,hml,pX]
   refine⟨by omega,by omega,?_⟩
   refine fj.same ⟨rfl,?_⟩
   simp -implicitDefEqProofs only[↓reduceIte,go_sem,Nat.reduceLT,Nat.reduceEqDiff,eq_self,t20,t21,hw]
  ·rintro s H' ⟨rfl,t8,t20,t21,t22⟩
   rw[List.take_length]
   simp -implicitDefEqProofs only[↓reduceIte,go_sem,Nat.reduceLT,Nat.reduceEqDiff,eq_self,t8,t21,t22]
   refine aC.ret ?_
   simp -implicitDefEqProofs only[↓reduceIte,go_sem,Nat.reduceLT,Nat.reduceEqDiff,eq_self,List.take_of_length_le (show(bZ (L.map fun x=>decide (x=1))).length≤L.length by rw[di,List.length_map];exact Nat.le_refl _)]
 ·rw[if_neg he]at hu
  rw[if_neg he]
  refine ah.ck (cs:=[.d (.v (.slice none 0 0)),iA e]) ?_ (.cons .nil (.cons (.refl _) .nil))
  refine ah.ao (hint:=(fun _=>false)) Tryz.func44 (by kernel_rfl) rfl [4,5] (by kernel_rfl) (by decide) (by simp[Tryz.ntmps44]) ?_
  rw[Tryz.ntmps44]
  simp -implicitDefEqProofs only[↓reduceIte,go_sem,Nat.reduceLT,Nat.reduceEqDiff,reduceCtorEq,eq_self]
  refine ae.ok (hu _) ?_
  simp -implicitDefEqProofs only[↓reduceIte,go_sem,Nat.reduceLT,Nat.reduceEqDiff,eq_self,he]
  refine aC.bC ?_
  simp -implicitDefEqProofs only[↓reduceIte,go_sem,Nat.reduceLT,Nat.reduceEqDiff,eq_self]
end Go.Proofs.YtmbagpfmfiegkaaGreat
namespace Go.Proofs.YtmbagpfmfiegkaaGreatAw
open Go.RowKit
section
variable (P:Program) (hint:Nat→Bool) (n:Nat) (y:Code) (m:Nat) (In:aa→Prop) (Ix:AX→aa→Prop) (H Hk:aa) (s:Nat→AV)
def EO:aT:=fun e s2 H3=>∃s3 H4,az Hk s2 H3 s3 H4∧H4.length=m∧(match e with| .normal=>In H4| .panic _=>False|e=>Ix e H4)
def Jq:aT:=fun e s1 H2=>match e with| .normal=>cV P hint n Hk y (EO m In Ix Hk) s1 H2|_=>False
theorem xt:Jq P hint n y m In Ix Hk .normal s H=cV P hint n Hk y (EO m In Ix Hk) s H:=rfl
theorem vf(t:Tmp)(v:AV):jM n s [t] [v]=bS n s (some t) v:=rfl
end
attribute [go_sem] xt vf
@[congr] theorem Kt {P:Program} {hint:Nat→Bool} {n:Nat} {y:Code} {m:Nat} {In:aa→Prop} {Ix:AX→aa→Prop} {Hk:aa} {e:AX} {s:Nat→AV} {H H':aa} (h:nf H=H'):Jq P hint n y m In Ix Hk e s H=Jq P hint n y m In Ix Hk e s H':=by rw[←h];rfl
@[congr] theorem J5 {m:Nat} {In:aa→Prop} {Ix:AX→aa→Prop} {Hk:aa} {e:AX} {s:Nat→AV} {H H':aa} (h:nf H=H'):EO m In Ix Hk e s H=EO m In Ix Hk e s H':=by rw[←h];rfl
theorem EO.cut{m:Nat}{In:aa→Prop}{Ix:AX→aa→Prop}{H ob0:aa}{s:Nat→AV}(fm T:aa){H3:aa}(e:H3=H++(fm++T))(hk:fm.length=ob0.length)(hm:m=(H++ob0).length)(hb:fm.all (aE.below m)=true)
  (hi:In (H++fm)):EO m In Ix (H++ob0) .normal s H3:=by
 subst e
 have hl:(H++fm).length=m:=by rw[hm];simp[hk]
 have hw:=az.vG (H0:=H++ob0) s (H++(fm++T)) m (by omega) (by rw[←hl];simp) fun i o h1 ho=>by
  rw[←List.append_assoc,List.getElem?_append_left (by omega)]at ho
  rcases Nat.lt_or_ge i H.length with hi|hi
  ·rw[List.getElem?_append_left hi]at ho
   exact .inl (by rw[List.getElem?_append_left hi];exact ho)
  ·rw[List.getElem?_append_right hi]at ho
   rw[List.all_eq_true]at hb
   exact .inr (hb o (List.mem_of_getElem? ho))
 rw[show(H++(fm++T)).take m=H++fm from by rw[←List.append_assoc,←hl,List.take_left]]at hw
 exact⟨_,_,hw,hl,hi⟩
theorem EO.same{m:Nat}{In:aa→Prop}{Ix:AX→aa→Prop}{Hk H3:aa}{s:Nat→AV}(hl:H3.length=m)(hi:In H3):EO m In Ix Hk .normal s H3:=⟨s,H3,.refl _ _,hl,hi⟩
theorem rX{P:Program}{hint:Nat→Bool}{n:Nat}{H0:aa}{g:Operand}{ps:Array Tmp}{x y:Code}{Q:aT}{s s0:Nat→AV}{H H1:aa}(hint':Nat→Bool){gf:FuncId}{caps:List AV}{xs:List (List AV)}{C:aa→Prop}(I:Nat→aa→Prop)(Ix:AX→aa→Prop)
  (hm:hint 2000000=true) (hm':hint' 2000000=false) (hW:az H0 s H s0 H1) (hg:ag s0 g= .fn gf caps) (hs:Bq P gf caps C xs) (hx:∀v∈xs,v.length=ps.size∧∀u∈v,jA H1.length u=true) (h0:I 0 H1) (hC:∀k Hk,I k Hk→C Hk∧Hk.length=H1.length)
  (round:∀k (hk:k<xs.length) Hk,I k Hk→cV P hint' n Hk x (Jq P hint' n y H1.length (I (k+1)) Ix Hk) (jM n s0 ps.toList (xs[k])) Hk)
  (done:∀Hn,I xs.length Hn→Q .normal s0 Hn) (stop:∀e Hx,Ix e Hx→Q e s0 Hx):cV P hint n H0 (.rangeFunc g ps x y) Q s H:=by
 refine⟨hm,hint',gf,caps,xs,C,I,Ix,s0,H1,hm',hW,hg,hs,fun v hv=>⟨(hx v hv).1,fun u hu=>Hc ((hx v hv).2 u hu)⟩,h0,hC,fun k hk Hk hI=>?_,done,stop⟩
 exact round k hk Hk hI
theorem BR.mono{m m':Nat}{o:aE}(h:BR m o)(hm:m≤m'):BR m' o:=
 ⟨fun e k ver n cs he c hc=>(h.1 e k ver n cs he c hc).mono hm,fun kk es he e hx=>(h.2.1 kk es he e hx).mono hm,fun a b c he=>Nat.lt_of_lt_of_le (h.2.2.1 a b c he) hm,fun r s he t=>(h.2.2.2 r s he t).mono hm⟩
theorem Ew{m:Nat}{Hs Hk:aa}{r r':Loop}{s:Nat→AV}(hb:lh m Hk)(hl:Hk.length=m)(hs:∀t,jX m (s t)):∀(i:Nat) (o:aE),(Hk++[aE.lp r' s])[i]?=some o→(Hs++[aE.lp r s])[i]?=some o∨BR (m+1) o:=by
 intro i o h
 right
 rcases oW h with⟨h1,_⟩|⟨_,rfl⟩
 ·exact(hb i o h1).mono (by omega)
 ·exact⟨fun _ _ _ _ _ he=>(by cases he),fun _ _ he=>(by cases he),fun _ _ _ he=>(by cases he),fun _ _ he t=>(by cases he;exact(hs t).mono (by omega))⟩
theorem az.iter{m:Nat}{Hs Hk T H:aa}{r r':Loop}{s0 s:Nat→AV}(e:H=Hk++([.lp r' s0]++T))(hb:lh m Hk)(hl:Hk.length=m)(hl':Hs.length=m)(hs:∀t,jX m (s0 t)):az (Hs++[.lp r s0]) s H (fun t=>oR H (m+1) (s t)) (Hk++[.lp r' s0]):=by
 subst e
 have hlen:(Hk++[aE.lp r' s0]).length=m+1:=by simp[hl]
 have hw:=az.Dt (H0:=Hs++[.lp r s0]) s (Hk++([.lp r' s0]++T)) (m+1) (by simp[hl']) (by simp;omega) fun i o h1 ho=>by
  rw[←List.append_assoc,List.getElem?_append_left (by omega)]at ho
  exact Ew hb hl hs i o ho
 rwa[show(Hk++([aE.lp r' s0]++T)).take (m+1)=Hk++[.lp r' s0]from by rw[←List.append_assoc,←hlen,List.take_left]]at hw
theorem FI(H:aa)(m id:Nat):oR H m (.js id)=if id<m then .js id else .top:=rfl
attribute [go_sem] FI
end Go.Proofs.YtmbagpfmfiegkaaGreatAw
namespace Go.Proofs.YtmbagpfmfiegkaaGreat
open Go.Proofs.YtmbagpfmfiegkaaGreatAw Go.RowKit
theorem EV{x:AV}(h:jN Tryz.prog 3 x):∃n:Int,x= .d (.v (.int .i64 n))∧dI n:=by
 obtain⟨d,rfl,hf⟩:=tp h K.C6 (sh:= .int .i64) (by kernel_rfl)
 obtain⟨n,rfl,hn⟩:=Fits.tt hf
 exact⟨n,rfl,hn⟩
theorem w9{x:AV}(h:jN Tryz.prog 42 x):∃l:List aj,x= .d (.list false (l.map aj.enc))∧l.length≤140737488351232∧∀a∈l,a.Ok:=by
 obtain⟨d,rfl,hf⟩:=tp h K.Gc (sh:= .slice 32 C4) (by kernel_rfl)
 obtain⟨l,rfl,hl,hn⟩:=DV hf
 exact⟨l,rfl,by omega,hn⟩
def aF(l:List aj):List aj:=l.filter fun v=>decide (v.kind≠0)
def pv(l:List aj):List (List AV):=(aF l).map fun v=>[v.av]
abbrev lB(l:List aj):aE:= .box 42 1 0 1 [.d (.list false (l.map aj.enc))]
theorem xZ(l:List aj)(v:aj):aF (l++[v])=if v.kind=0 then aF l else aF l++[v]:=by
 unfold aF
 rw[List.filter_append]
 by_cases h:v.kind=0<;>simp[h]
theorem Dp(l:List aj){k:Nat}(hk:k<l.length)(hz:l[k].kind≠0):∃h:(aF (l.take k)).length<(pv l).length,(pv l)[(aF (l.take k)).length]=[l[k].av]:=by
 have e:aF l=aF (l.take k)++l[k]::aF (l.drop (k+1)):=by
  have h1:l=l.take k++(l[k]::l.drop (k+1)):=by rw[←List.drop_eq_getElem_cons hk,List.take_append_drop]
  have h2:aF (l.take k++(l[k]::l.drop (k+1)))=aF (l.take k)++l[k]::aF (l.drop (k+1)):=by
   unfold aF
   rw[List.filter_append,List.filter_cons,if_pos (by simpa using hz)]
  rw[←h1]at h2
  exact h2
 unfold pv
 rw[e]
 refine⟨by simp,?_⟩
 simp
theorem nq(l:List aj)(H:aa):ah Tryz.prog 57 [.d (.list false (l.map aj.enc))] H (.ok (.fn 101 [.ptr H.length 0 0 0])) (H++[lB l]):=by
 refine ah.ao (hint:=(fun _=>false)) Tryz.func57 (by kernel_rfl) rfl [2] (by kernel_rfl) (by decide) (by simp[Tryz.ntmps57]) ?_
 rw[Tryz.ntmps57]
 simp -implicitDefEqProofs only[↓reduceIte,go_sem,Nat.reduceLT,Nat.reduceEqDiff,eq_self]
 exact⟨_,az.refl _ _,by simp -implicitDefEqProofs only[↓reduceIte,go_sem,Nat.reduceLT,eq_self]⟩
theorem Ai(l:List aj)(id:Nat)(hl:l.length≤1000000000000):Bq Tryz.prog 101 [.ptr id 0 0 0] (fun H=>H[id]?=some (lB l)) (pv l):=by
 intro r s0 J Jx m Hs h0 hsb hJ hY
 refine zX.ao (hint:=fun t=>t==3000000) Tryz.func101 (by kernel_rfl) rfl [] (by kernel_rfl) (by decide) (by simp[Tryz.ntmps101]) ?_
 rw[Tryz.ntmps101]
 obtain⟨hC0,_,hl0⟩:=hJ 0 Hs h0
 have hx0:(Hs++[aE.lp r s0])[id]?=some (lB l):=by rw[List.getElem?_append_left (aw hC0)];exact hC0
 simp -implicitDefEqProofs only[↓reduceIte,go_sem,ai,Nat.reduceLT,eq_self,hx0]
 refine bD (fun k s H'=>∃Hk,J (aF (l.take k)).length Hk∧H'=Hk++[.lp r s0]∧s 0= .js m∧s 5= .d (.list false (l.map aj.enc))∧s 6=iA l.length∧s 7=iA k) l.length (by omega) (az.refl _ _) ?_ ?_ ?_
 ·refine⟨Hs,h0,rfl,?_⟩
  simp -implicitDefEqProofs only[↓reduceIte,go_sem,Nat.reduceLT,Nat.reduceEqDiff,reduceCtorEq,eq_self]
 ·rintro k s H' hk hw ⟨Hk,hJk,rfl,t0,t5,t6,t7⟩
  have hx:(l.map aj.enc)[k]?=some [.v (.int .i64 l[k].kind),.v (.int .i64 l[k].i),.v (.string l[k].s)]:=by rw[List.getElem?_map,List.getElem?_eq_getElem hk];rfl
  have e1:=xZ (l.take k) l[k]
  rw[←List.take_succ_eq_append_getElem hk]at e1
  obtain⟨hCk,hbk,hlk⟩:=hJ _ _ hJk
  by_cases hz:l[k].kind=0
  ·rw[if_pos hz]at e1
   generalize l[k]=v at*
   simp -implicitDefEqProofs only[↓reduceIte,go_sem,ai,aq,Nat.reduceAdd,Nat.reduceLT,Nat.reduceLeDiff,Nat.reduceEqDiff,Nat.reduceBEq,reduceCtorEq,eq_self,t5,t6,t7,hk,hx,hz]
   refine⟨_,_,az.iter rfl hbk hlk hl0 hsb,Hk,by rw[e1];exact hJk,rfl,?_⟩
   simp -implicitDefEqProofs only[↓reduceIte,go_sem,Nat.reduceLT,Nat.reduceEqDiff,reduceCtorEq,eq_self,t0,t5,t6,hw,Nat.lt_add_one]
  ·rw[if_neg hz]at e1
   obtain⟨hi,hxi⟩:=Dp l hk hz
   have hYk:=fun T=>hY _ hi Hk T hJk
   rw[hxi]at hYk
   generalize hv:l[k]=v at*
   simp -implicitDefEqProofs only[↓reduceIte,go_sem,ai,aq,Nat.reduceAdd,Nat.reduceLT,Nat.reduceLeDiff,Nat.reduceEqDiff,Nat.reduceBEq,reduceCtorEq,eq_self,t0,t5,t6,t7,hk,hx,hz]
   refine AL.ok (hYk [.box 25 3 0 1 [iA v.kind,iA v.i,sA v.s]]) ?_
   intro b H' hb
   cases b with
   |true=>
    rw[if_pos rfl]at hb
    obtain⟨Hk',hJk',rfl⟩:=hb
    obtain⟨hCk',hbk',hlk'⟩:=hJ _ _ hJk'
    simp -implicitDefEqProofs only[↓reduceIte,go_sem,Nat.reduceAdd,Nat.reduceLT,Nat.reduceEqDiff,Nat.reduceBEq,eq_self,t7]
    refine⟨_,_,az.iter rfl hbk' hlk' hl0 hsb,Hk',by rw[e1,List.length_append];exact hJk',rfl,?_⟩
    simp -implicitDefEqProofs only[↓reduceIte,go_sem,Nat.reduceLT,Nat.reduceEqDiff,reduceCtorEq,eq_self,t0,t5,t6,hw,Nat.lt_add_one]
   |false=>
    rw[if_neg (by simp)]at hb
    obtain⟨Hk',c,hjx,hbk',hlk',rfl⟩:=hb
    simp -implicitDefEqProofs only[↓reduceIte,go_sem,Nat.reduceLT,Nat.reduceEqDiff,eq_self]
    exact⟨_,_,az.iter rfl hbk' hlk' hl0 hsb,rfl,.inr ⟨Hk',c,hjx,hlk',rfl⟩⟩
 ·rintro s H' ⟨Hk,hJk,rfl,t0,t5,t6,t7⟩
  rw[List.take_length]at hJk
  simp -implicitDefEqProofs only[↓reduceIte,go_sem,Nat.reduceLT,eq_self,t6,t7]
  exact⟨_,_,az.refl _ _,rfl,.inl ⟨Hk,by unfold pv;rw[List.length_map];exact hJk,rfl⟩⟩
theorem pP(gf:FuncId)(caps:List AV)(C:aa→Prop)(l:List aj)(H:aa)(hs:Bq Tryz.prog gf caps C (l.map fun v=>[v.av]))(hC:∀T,C (H++T))(hl:l.length≤1000000000):
  ah Tryz.prog 126 [.d (.v (.slice none 0 0)),.fn gf caps] H (.ok (.d (.list false (l.map aj.enc)))) H:=by
 refine ah.ao (hint:=(fun t=>t==2000000)) Tryz.func126 (by kernel_rfl) rfl [4] (by kernel_rfl) (by decide) (by simp[Tryz.ntmps126]) ?_
 rw[Tryz.ntmps126]
 simp -implicitDefEqProofs only[↓reduceIte,go_sem,Nat.reduceAdd,Nat.reduceLT,Nat.reduceEqDiff,Nat.reduceBEq]
 refine rX (fun _=>false) (fun k Hk=>Hk=H++[.box 42 1 0 1 [.sl (H.length+1) k 0 k],.arr 25 3 k ((l.take k).map aj.enc)]) (fun _ _=>False) rfl rfl (az.kT _ _ H.length 42 1 0 1 [.d (.v (.slice none 0 0))] 0 _ 25 3 (by decide) (by simp) rfl rfl) (by simp -implicitDefEqProofs only[↓reduceIte,go_sem,Nat.reduceLT,eq_self]) hs ?_ ?_ ?_ ?_ ?_ (fun _ _ h=>h.elim)
 ·intro v hv
  obtain⟨u,_,rfl⟩:=List.mem_map.1 hv
  exact⟨rfl,fun w hw=>by rw[List.mem_singleton.1 hw];rfl⟩
 ·simp -implicitDefEqProofs only[go_sem,eq_self,List.take_zero]
 ·rintro k _ rfl
  exact⟨hC _,by simp -implicitDefEqProofs only[go_sem,Nat.reduceAdd,eq_self]⟩
 ·rintro k hk _ rfl
  rw[List.length_map]at hk
  have e1:(l.take (k+1)).map aj.enc=(l.take k).map aj.enc++[l[k].enc]:=by rw[List.take_succ_eq_append_getElem hk,List.map_append];rfl
  have hlen:((l.take k).map aj.enc).length=k:=by rw[List.length_map,List.length_take];omega
  rw[e1,List.getElem_map]
  generalize (l.take k).map aj.enc=B at*
  generalize l[k]=v at*
  simp -implicitDefEqProofs only[↓reduceIte,go_sem,ai,aq,Nat.reduceAdd,Nat.reduceLT,Nat.reduceLeDiff,Nat.reduceEqDiff,eq_self,hlen]
  refine⟨by omega,by omega,?_⟩
  refine EO.cut [.box 42 1 0 1 [.sl (H.length+1) (k+1) 0 (k+1)],.arr 25 3 (k+1) (B++[v.enc])] _ rfl rfl (by simp -implicitDefEqProofs only[go_sem,Nat.reduceAdd,eq_self]) (by simp -implicitDefEqProofs only[go_sem,Nat.reduceAdd,Nat.reduceLT,eq_self]) ?_
  rfl
 ·rintro _ rfl
  rw[List.length_map,List.take_length]
  simp -implicitDefEqProofs only[↓reduceIte,go_sem,ai,Nat.reduceAdd,Nat.reduceLT,Nat.reduceEqDiff,Nat.reduceBEq,eq_self]
  refine aC.ret ?_
  simp -implicitDefEqProofs only[↓reduceIte,go_sem,Nat.reduceLT,eq_self,List.take_of_length_le (show(l.map aj.enc).length≤l.length by simp)]
theorem tc(gf:FuncId)(caps:List AV)(C:aa→Prop)(l:List aj)(H:aa)(hs:Bq Tryz.prog gf caps C (l.map fun v=>[v.av]))(hC:∀T,C (H++T))(hl:l.length≤1000000000):
  ah Tryz.prog 89 [.fn gf caps] H (.ok (.d (.list false (l.map aj.enc)))) H:=by
 refine ah.ao (hint:=(fun _=>false)) Tryz.func89 (by kernel_rfl) rfl [2] (by kernel_rfl) (by decide) (by simp[Tryz.ntmps89]) ?_
 rw[Tryz.ntmps89]
 simp -implicitDefEqProofs only[↓reduceIte,go_sem,Nat.reduceLT,reduceCtorEq,eq_self]
 refine ae.ok (pP gf caps C l _ hs hC hl) ?_
 simp -implicitDefEqProofs only[↓reduceIte,go_sem,Nat.reduceLT,eq_self]
 refine aC.bC ?_
 simp -implicitDefEqProofs only[↓reduceIte,go_sem,Nat.reduceLT,eq_self]
def b6(l:List aj):List Bool:=l.map fun v=>decide (v.kind=0)
theorem vj(l:List aj)(v:aj):b6 (l++[v])=b6 l++[decide (v.kind=0)]:=by simp[b6]
theorem dE(l:List aj):(b6 l).length=l.length:=by simp[b6]
theorem zC(l:List aj)(hl:l.length≤1000000000)(H:aa):ah Tryz.prog 28 [.d (.list false (l.map aj.enc))] H (.ok (.bu [.d (.list false (bZ (b6 l))),.d (.list false ((aF l).map aj.enc))])) H:=by
 refine ah.ao (hint:=(fun t=>t==2000000)) Tryz.func28 (by kernel_rfl) rfl [2,3] (by kernel_rfl) (by decide) (by simp[Tryz.ntmps28]) ?_
 rw[Tryz.ntmps28]
 simp -implicitDefEqProofs only[↓reduceIte,go_sem,Nat.reduceAdd,Nat.reduceLT,Nat.reduceBEq,reduceCtorEq,eq_self]
 refine bD (fun k s H'=>H'=H++[.arr 4 1 k (bZ (b6 (l.take k)))]∧s 0= .d (.list false (l.map aj.enc))∧s 4= .sl H.length k 0 k∧s 9= .d (.list false (l.map aj.enc))∧s 10=iA l.length∧s 11=iA k) l.length (by omega) (az.fg _ _ 4 4 1 (by decide) (by simp -implicitDefEqProofs only[↓reduceIte,go_sem,Nat.reduceLT,Nat.reduceEqDiff,eq_self]) _) ?_ ?_ ?_
 ·refine⟨rfl,?_⟩
  simp -implicitDefEqProofs only[↓reduceIte,go_sem,Nat.reduceLT,Nat.reduceEqDiff,reduceCtorEq,eq_self]
 ·rintro k s H' hk hw ⟨rfl,t0,t4,t9,t10,t11⟩
  have hx:(l.map aj.enc)[k]?=some [.v (.int .i64 l[k].kind),.v (.int .i64 l[k].i),.v (.string l[k].s)]:=by rw[List.getElem?_map,List.getElem?_eq_getElem hk];rfl
  have e1:=vj (l.take k) l[k]
  rw[←List.take_succ_eq_append_getElem hk]at e1
  have hml:(b6 (l.take k)).length=k:=by rw[dE,List.length_take];omega
  rw[e1]
  generalize b6 (l.take k)=B at*
  generalize l[k]=v at*
  generalize hdv:decide (v.kind=0)=dv at*
  simp -implicitDefEqProofs only[↓reduceIte,go_sem,ai,aq,Nat.reduceAdd,Nat.reduceLT,Nat.reduceLeDiff,Nat.reduceEqDiff,Nat.reduceBEq,eq_self,t4,t9,t10,t11,hk,hx,hdv,di,hml,pX]
  refine⟨by omega,by omega,?_⟩
  refine fj.cut [.arr 4 1 (k+1) (bZ (B++[dv]))] _ 1 rfl rfl (by simp -implicitDefEqProofs only[go_sem,eq_self]) ?_
  refine⟨rfl,?_⟩
  simp -implicitDefEqProofs only[↓reduceIte,go_sem,Nat.reduceLT,Nat.reduceEqDiff,reduceCtorEq,eq_self,t0,t9,t10,hw]
 ·rintro s H' ⟨rfl,t0,t4,t9,t10,t11⟩
  rw[List.take_length]
  simp -implicitDefEqProofs only[↓reduceIte,go_sem,Nat.reduceAdd,Nat.reduceLT,Nat.reduceBEq,reduceCtorEq,eq_self,t0,t10,t11]
  refine ae.ok (nq l _) ?_
  simp -implicitDefEqProofs only[go_sem,Nat.reduceAdd]
  have hsq:=Ai l (H.length+2) (by omega)
  have hfl:(aF l).length≤l.length:=List.length_filter_le _ _
  unfold pv at hsq
  generalize aF l=L at*
  have hBl:(bZ (b6 l)).length≤l.length:=by rw[di,dE];exact Nat.le_refl _
  generalize bZ (b6 l)=B at*
  refine rX (fun _=>false) (fun k Hk=>Hk=H++[.arr 4 1 l.length B,.box 42 1 0 1 [.sl (H.length+3) k 0 k],lB l,.arr 25 3 k ((L.take k).map aj.enc)]) (fun _ _=>False) rfl rfl (az.kT _ _ (H.length+1) 42 1 0 1 [.d (.v (.slice none 0 0))] 0 _ 25 3 (by decide) (by simp -implicitDefEqProofs only[go_sem,eq_self]) rfl rfl) (by simp -implicitDefEqProofs only[↓reduceIte,go_sem,Nat.reduceLT,eq_self]) hsq ?_ ?_ ?_ ?_ ?_ (fun _ _ h=>h.elim)
  ·intro v hv
   obtain⟨u,_,rfl⟩:=List.mem_map.1 hv
   exact⟨rfl,fun w hw=>by rw[List.mem_singleton.1 hw];rfl⟩
  ·simp -implicitDefEqProofs only[go_sem,Nat.reduceAdd,eq_self,List.take_zero]
  ·rintro k _ rfl
   exact⟨by simp -implicitDefEqProofs only[go_sem,eq_self],by simp -implicitDefEqProofs only[go_sem,Nat.reduceAdd,eq_self]⟩
  ·rintro k hk _ rfl
   rw[List.length_map]at hk
   have e1:(L.take (k+1)).map aj.enc=(L.take k).map aj.enc++[L[k].enc]:=by rw[List.take_succ_eq_append_getElem hk,List.map_append];rfl
   have hlen:((L.take k).map aj.enc).length=k:=by rw[List.length_map,List.length_take];omega
   rw[e1,List.getElem_map]
   generalize (L.take k).map aj.enc=E at*
   generalize L[k]=v at*
   simp -implicitDefEqProofs only[↓reduceIte,go_sem,ai,aq,Nat.reduceAdd,Nat.reduceLT,Nat.reduceLeDiff,Nat.reduceEqDiff,eq_self,hlen]
   refine⟨by omega,by omega,?_⟩
   refine EO.cut [.arr 4 1 l.length B,.box 42 1 0 1 [.sl (H.length+3) (k+1) 0 (k+1)],lB l,.arr 25 3 (k+1) (E++[v.enc])] _ rfl rfl (by simp -implicitDefEqProofs only[go_sem,Nat.reduceAdd,eq_self]) (by simp -implicitDefEqProofs only[go_sem,Nat.reduceAdd,Nat.reduceLT,eq_self]) ?_
   rfl
  ·rintro _ rfl
   rw[List.length_map,List.take_length]
   simp -implicitDefEqProofs only[go_sem,Nat.reduceAdd,Nat.reduceBEq]
   refine bQ K.mixed (by kernel_rfl) ?_
   simp -implicitDefEqProofs only[↓reduceIte,go_sem,ai,Nat.reduceLT,Nat.reduceEqDiff,eq_self,t4]
   refine aC.ret ?_
   simp -implicitDefEqProofs only[↓reduceIte,go_sem,Nat.reduceLT,Nat.reduceEqDiff,eq_self,List.take_of_length_le (show(L.map aj.enc).length≤L.length by simp),List.take_of_length_le hBl]
def ef:List Bool→List aj→List aj
 |[],_=>[]
 |true::ns,l=>⟨0,0,dH⟩::ef ns l
 |false::ns,v::l=>v::ef ns l
 |false::ns,[]=>[]
def gL(ns:List Bool)(l:List aj):List aj×Int:=
 if ns.length-aJ ns≠l.length then([],4)else if(aF l).length≠l.length then([],4)else(ef ns l,0)
theorem count_cons(b:Bool)(l:List Bool):aJ (b::l)=if b then aJ l+1 else aJ l:=by
 unfold aJ
 rw[List.countP_cons]
 cases b<;>simp
theorem An(ns:List Bool)(l:List aj)(hn:ns.length≤1000000)(hl:l.length≤1000000000)(H:aa):
  ah Tryz.prog 48 [.d (.list false (bZ ns)),.d (.list false (l.map aj.enc))] H (.ok (.bu [.d (.list false ((gL ns l).1.map aj.enc)),iA (gL ns l).2])) H:=by
 have hcl:=fC ns
 have hc:=fun H=>ql ns false (by omega) H
 have hw1:IntKind.i64.wrap ((ns.length:Int)-(aJ ns:Int))=((ns.length-aJ ns:Nat):Int):=by rw[wrap64_in _ (by omega) (by omega)];omega
 by_cases h1:ns.length-aJ ns=l.length
 ·have hne:(((l.length:Nat):Int)=((ns.length-aJ ns:Nat):Int))=True:=eq_true (by omega)
  have hsq:=fun id=>Ai l id (by omega)
  have hfl:(aF l).length≤l.length:=List.length_filter_le _ _
  unfold pv at hsq
  have hcol:=fun(G:aa)=>tc 101 [.ptr G.length 0 0 0] (fun H=>H[G.length]?=some (lB l)) (aF l) (G++[lB l]) (hsq G.length) (fun T=>by rw[List.append_assoc];simp) (by omega)
  by_cases h2:(aF l).length=l.length
  ·have hj:gL ns l=(ef ns l,0):=by unfold gL;rw[if_neg (by simp[h1]),if_neg (by simp[h2])]
   have hne2:((((aF l).length:Nat):Int)=((l.length:Nat):Int))=True:=eq_true (by omega)
   rw[hj]
   refine ah.ao (hint:=(fun _=>false)) Tryz.func48 (by kernel_rfl) rfl [4,5] (by kernel_rfl) (by decide) (by simp[Tryz.ntmps48]) ?_
   rw[Tryz.ntmps48]
   simp -implicitDefEqProofs only[↓reduceIte,go_sem,Nat.reduceLT,Nat.reduceEqDiff,reduceCtorEq,eq_self,di]
   refine ae.ok (hc _) ?_
   simp -implicitDefEqProofs only[↓reduceIte,go_sem,Nat.reduceLT,Nat.reduceEqDiff,eq_self,hw1,hne]
   refine ae.ok (nq l _) ?_
   simp -implicitDefEqProofs only[↓reduceIte,go_sem,Nat.reduceLT,Nat.reduceEqDiff,eq_self]
   refine ae.ok (hcol _) ?_
   simp -implicitDefEqProofs only[↓reduceIte,go_sem,Nat.reduceLT,Nat.reduceEqDiff,reduceCtorEq,eq_self,List.length_map,hne2]
   refine bD (fun k s H'=>∃O R,H'=H++[lB l,.arr 25 3 k (O.map aj.enc)]∧ef ns l=O++ef (ns.drop k) R∧O.length=k∧(ns.drop k).length-aJ (ns.drop k)=R.length∧s 1= .d (.list false (R.map aj.enc))∧s 6= .sl (H.length+1) k 0 k∧s 26= .d (.list false (bZ ns))∧s 27=iA ns.length∧s 28=iA k) ns.length (by omega) (az.fg _ _ 6 25 3 (by decide) (by simp -implicitDefEqProofs only[↓reduceIte,go_sem,Nat.reduceLT,Nat.reduceEqDiff,eq_self]) _) ?_ ?_ ?_
   ·refine⟨[],l,by simp -implicitDefEqProofs only[go_sem,eq_self],rfl,rfl,h1,?_⟩
    simp -implicitDefEqProofs only[↓reduceIte,go_sem,Nat.reduceLT,Nat.reduceEqDiff,eq_self,di]
   ·rintro k s H' hk hw ⟨O,R,rfl,hJ,hO,hR,t1,t6,t26,t27,t28⟩
    have hx:=nc ns k hk
    have hd:ns.drop k=ns[k]::ns.drop (k+1):=List.drop_eq_getElem_cons hk
    rw[hd]at hJ hR
    rw[count_cons]at hR
    have hce:=fC (ns.drop (k+1))
    generalize ns.drop (k+1)=D at*
    generalize ns[k]=b at*
    have hOl:(O.map aj.enc).length=k:=by rw[List.length_map];exact hO
    cases b with
    |true=>
     simp -implicitDefEqProofs only[↓reduceIte,go_sem,Nat.reduceAdd,Nat.reduceLT,Nat.reduceLeDiff,Nat.reduceEqDiff,eq_self,t6,t26,t27,t28,hk,hx,hOl]
     refine⟨by omega,by omega,?_⟩
     refine fj.cut [lB l,.arr 25 3 (k+1) ((O++[(⟨0,0,dH⟩:aj)]).map aj.enc)] _ 2 rfl (by simp[aj.enc,dH];rfl) (by simp -implicitDefEqProofs only[go_sem,eq_self]) ⟨O++[⟨0,0,dH⟩],R,rfl,by rw[hJ];simp[ef],by simp[hO],by simp at hR;omega,?_⟩
     simp -implicitDefEqProofs only[↓reduceIte,go_sem,Nat.reduceLT,Nat.reduceEqDiff,eq_self,t1,t26,t27,hw]
    |false=>
     cases R with
     |nil=>simp at hR;omega
     |cons v R=>
      simp -implicitDefEqProofs only[↓reduceIte,go_sem,Nat.reduceAdd,Nat.reduceLT,Nat.reduceLeDiff,Nat.reduceEqDiff,Int.reduceLE,Int.reduceToNat,eq_self,t1,t6,t26,t27,t28,hk,hx,hOl,aj.enc]
      refine⟨by omega,by omega,?_,by omega,by omega,?_⟩
      ·rintro c (rfl|hc)
       ·rfl
       ·obtain⟨u,_,rfl⟩:=List.mem_map.1 hc
        rfl
      refine fj.cut [lB l,.arr 25 3 (k+1) ((O++[v]).map aj.enc)] _ 2 rfl (by simp[aj.enc];rfl) (by simp -implicitDefEqProofs only[go_sem,eq_self]) ⟨O++[v],R,rfl,by rw[hJ];simp[ef],by simp[hO],by simp at hR;omega,?_⟩
      simp -implicitDefEqProofs only[↓reduceIte,go_sem,Nat.reduceLT,Nat.reduceEqDiff,eq_self,t26,t27,hw,show((R.length:Int)+1).toNat=R.length+1 by omega,List.take_succ_cons,List.take_of_length_le (show(R.map aj.enc).length≤R.length by simp),List.drop_succ_cons,List.drop_zero]
   ·rintro s H' ⟨O,R,rfl,hJ,hO,hR,t1,t6,t26,t27,t28⟩
    rw[List.drop_length]at hJ hR
    have hjo:ef ns l=O:=by rw[hJ];simp[ef]
    simp -implicitDefEqProofs only[↓reduceIte,go_sem,Nat.reduceLT,Nat.reduceEqDiff,eq_self,t6,t27,t28]
    refine aC.ret ?_
    simp -implicitDefEqProofs only[↓reduceIte,go_sem,Nat.reduceLT,Nat.reduceEqDiff,eq_self,hjo,List.take_of_length_le (show(O.map aj.enc).length≤ns.length by rw[List.length_map];omega)]
  ·have hj:gL ns l=([],4):=by unfold gL;rw[if_neg (by simp[h1]),if_pos h2]
   have hne2:((((aF l).length:Nat):Int)=((l.length:Nat):Int))=False:=eq_false (by omega)
   rw[hj]
   refine ah.ck (cs:=[.d (.v (.slice none 0 0)),iA 4]) ?_ (.cons .nil (.cons (.refl _) .nil))
   refine ah.ao (hint:=(fun _=>false)) Tryz.func48 (by kernel_rfl) rfl [4,5] (by kernel_rfl) (by decide) (by simp[Tryz.ntmps48]) ?_
   rw[Tryz.ntmps48]
   simp -implicitDefEqProofs only[↓reduceIte,go_sem,Nat.reduceLT,Nat.reduceEqDiff,reduceCtorEq,eq_self,di]
   refine ae.ok (hc _) ?_
   simp -implicitDefEqProofs only[↓reduceIte,go_sem,Nat.reduceLT,Nat.reduceEqDiff,eq_self,hw1,hne]
   refine ae.ok (nq l _) ?_
   simp -implicitDefEqProofs only[↓reduceIte,go_sem,Nat.reduceLT,Nat.reduceEqDiff,eq_self]
   refine ae.ok (hcol _) ?_
   simp -implicitDefEqProofs only[↓reduceIte,go_sem,Nat.reduceLT,Nat.reduceEqDiff,reduceCtorEq,eq_self,List.length_map,hne2]
   refine aC.ret ?_
   simp -implicitDefEqProofs only[↓reduceIte,go_sem,Nat.reduceLT,Nat.reduceEqDiff,eq_self]
 ·have hj:gL ns l=([],4):=by unfold gL;rw[if_pos h1]
  have hne:(((l.length:Nat):Int)=((ns.length-aJ ns:Nat):Int))=False:=eq_false (by omega)
  rw[hj]
  refine ah.ck (cs:=[.d (.v (.slice none 0 0)),iA 4]) ?_ (.cons .nil (.cons (.refl _) .nil))
  refine ah.ao (hint:=(fun _=>false)) Tryz.func48 (by kernel_rfl) rfl [4,5] (by kernel_rfl) (by decide) (by simp[Tryz.ntmps48]) ?_
  rw[Tryz.ntmps48]
  simp -implicitDefEqProofs only[↓reduceIte,go_sem,Nat.reduceLT,Nat.reduceEqDiff,reduceCtorEq,eq_self,di]
  refine ae.ok (hc _) ?_
  simp -implicitDefEqProofs only[↓reduceIte,go_sem,Nat.reduceLT,Nat.reduceEqDiff,eq_self,hw1,hne]
  refine aC.bC ?_
  simp -implicitDefEqProofs only[↓reduceIte,go_sem,Nat.reduceLT,Nat.reduceEqDiff,eq_self]
structure Sg where
 kind:Int
 aR:Int
 aP:Zn
 aB:List Bool
 body:List Nat
deriving DecidableEq
def Sg.cs(s:Sg):List AV:=[iA s.kind,iA s.aR,iA s.aP.rows,iA s.aP.aB,iA s.aP.mn.kind,iA s.aP.mn.i,sA s.aP.mn.s,iA s.aP.mx.kind,iA s.aP.mx.i,sA s.aP.mx.s,.d (.list false (bZ s.aB)),.d (.list false (aL s.body))]
def Ld:Zn:=⟨0,0,⟨0,0,dH⟩,⟨0,0,dH⟩⟩
def A2:Sg:=⟨0,0,Ld,[],[]⟩
def fO:List AV:=[iA 0,iA 0,iA 0,iA 0,iA 0,iA 0,sA dH,iA 0,iA 0,sA dH,.d (.v (.slice none 0 0)),.d (.v (.slice none 0 0))]
theorem fM:Sub (.agg fO) (.agg A2.cs):=
 .agg (.cons (.refl _) (.cons (.refl _) (.cons (.refl _) (.cons (.refl _) (.cons (.refl _) (.cons (.refl _) (.cons (.refl _) (.cons (.refl _) (.cons (.refl _) (.cons (.refl _) (.cons .nil (.cons .nil .nil))))))))))))
def bL(l:List aj)(k w:Int):Int:=if w=0 then pS (aF l) k else w
def cb(l:List aj):List Bool:=if(aF l).length=l.length then[]else b6 l
def dN(l:List aj)(k w:Int):Sg×Int:=
 if aQ (aF l) k≠0 then(A2,aQ (aF l) k)
 else if 4096<l.length then(A2,2)
 else if(cj (aF l) k (bL l k w)).2≠0 then(A2,(cj (aF l) k (bL l k w)).2)
 else(⟨k,bL l k w,bf l,cb l,(cj (aF l) k (bL l k w)).1⟩,0)
theorem kU(l:List aj)(k w:Int)(hok:∀v∈l,dI v.i)(hl:l.length≤1000000000)(H:aa):
  ah Tryz.prog 14 [.d (.list false (l.map aj.enc)),iA k,iA w] H (.ok (.bu [.agg (dN l k w).1.cs,iA (dN l k w).2])) H:=by
 have hs:=fun H=>zC l hl H
 have hfl:(aF l).length≤l.length:=List.length_filter_le _ _
 have hok2:∀v∈aF l,dI v.i:=fun v hv=>hok v ((List.mem_filter.1 hv).1)
 have hc:=fun H=>dW (aF l) k false H (by omega)
 have hbe:=fun H=>AM (aF l) k hok2 (by omega) H
 have hbo:=fun H=>rv (aF l) k (bL l k w) hok2 (by omega) H
 have hzo:=fun H=>BZ l false hl H
 unfold dN cb
 have hw0:w=0→bL l k w=pS (aF l) k:=fun h=>if_pos h
 have hw1:w≠0→bL l k w=w:=fun h=>if_neg h
 generalize bL l k w=w' at*
 generalize pS (aF l) k=be at*
 generalize cj (aF l) k w'=bo at*
 obtain⟨bb,e⟩:=bo
 simp only at hbo⊢
 generalize bf l=z at*
 generalize aQ (aF l) k=pe at*
 have hol:((b6 l).length=l.length):=dE l
 generalize b6 l=ns at*
 generalize aF l=L at*
 by_cases hpe:pe≠0
 ·rw[if_pos hpe]
  refine ah.ck (cs:=[.agg fO,iA pe]) ?_ (.cons fM (.cons (.refl _) .nil))
  refine ah.bR (hint:=fun _=>false) Tryz.func14 (by kernel_rfl) rfl [.cell 6 30,.tmp 7] (by kernel_rfl) (by simp[Tryz.ntmps14]) ?_
  rw[Tryz.ntmps14]
  simp -implicitDefEqProofs only[↓reduceIte,go_sem,Nat.reduceLT,reduceCtorEq,eq_self]
  refine ae.ok (hs _) ?_
  simp -implicitDefEqProofs only[↓reduceIte,go_sem,Nat.reduceLT,Nat.reduceEqDiff,eq_self]
  refine ae.ok (hc _) ?_
  simp -implicitDefEqProofs only[↓reduceIte,go_sem,aq,Nat.reduceAdd,Nat.reduceLT,Nat.reduceEqDiff,eq_self,hpe]
  refine bG.ret ?_
  simp -implicitDefEqProofs only[↓reduceIte,go_sem,ai,Nat.reduceAdd,Nat.reduceLT,Nat.reduceLeDiff,Nat.reduceEqDiff,eq_self,aO,bP,fO,dH]
 rw[if_neg hpe]
 obtain rfl:pe=0:=by simpa using hpe
 by_cases h4:4096<l.length
 ·rw[if_pos h4]
  refine ah.ck (cs:=[.agg fO,iA 2]) ?_ (.cons fM (.cons (.refl _) .nil))
  refine ah.bR (hint:=fun _=>false) Tryz.func14 (by kernel_rfl) rfl [.cell 6 30,.tmp 7] (by kernel_rfl) (by simp[Tryz.ntmps14]) ?_
  rw[Tryz.ntmps14]
  simp -implicitDefEqProofs only[↓reduceIte,go_sem,Nat.reduceLT,reduceCtorEq,eq_self]
  refine ae.ok (hs _) ?_
  simp -implicitDefEqProofs only[↓reduceIte,go_sem,Nat.reduceLT,Nat.reduceEqDiff,eq_self]
  refine ae.ok (hc _) ?_
  simp -implicitDefEqProofs only[↓reduceIte,go_sem,aq,Nat.reduceAdd,Nat.reduceLT,Nat.reduceEqDiff,reduceCtorEq,eq_self,List.length_map,show((4096:Int)<(l.length:Int))=True from eq_true (by omega)]
  refine bG.ret ?_
  simp -implicitDefEqProofs only[↓reduceIte,go_sem,ai,Nat.reduceAdd,Nat.reduceLT,Nat.reduceLeDiff,Nat.reduceEqDiff,eq_self,aO,bP,fO,dH]
 rw[if_neg h4]
 have h4f:((4096:Int)<(l.length:Int))=False:=eq_false (by omega)
 by_cases he:e≠0
 ·rw[if_pos he]
  refine ah.ck (cs:=[.agg fO,iA e]) ?_ (.cons fM (.cons (.refl _) .nil))
  by_cases hw:w=0
  ·obtain rfl:=hw0 hw
   refine ah.bR (hint:=fun _=>false) Tryz.func14 (by kernel_rfl) rfl [.cell 6 30,.tmp 7] (by kernel_rfl) (by simp[Tryz.ntmps14]) ?_
   rw[Tryz.ntmps14]
   simp -implicitDefEqProofs only[↓reduceIte,go_sem,Nat.reduceLT,reduceCtorEq,eq_self]
   refine ae.ok (hs _) ?_
   simp -implicitDefEqProofs only[↓reduceIte,go_sem,Nat.reduceLT,Nat.reduceEqDiff,eq_self]
   refine ae.ok (hc _) ?_
   simp -implicitDefEqProofs only[↓reduceIte,go_sem,Nat.reduceLT,Nat.reduceEqDiff,reduceCtorEq,eq_self,List.length_map,h4f,hw]
   refine ae.ok (hbe _) ?_
   simp -implicitDefEqProofs only[↓reduceIte,go_sem,Nat.reduceLT,Nat.reduceEqDiff,eq_self]
   refine ae.ok (hbo _) ?_
   simp -implicitDefEqProofs only[↓reduceIte,go_sem,aq,Nat.reduceAdd,Nat.reduceLT,Nat.reduceEqDiff,eq_self,he]
   refine bG.ret ?_
   simp -implicitDefEqProofs only[↓reduceIte,go_sem,ai,Nat.reduceAdd,Nat.reduceLT,Nat.reduceLeDiff,Nat.reduceEqDiff,eq_self,aO,bP,fO,dH]
  ·obtain rfl:=hw1 hw
   refine ah.bR (hint:=fun _=>false) Tryz.func14 (by kernel_rfl) rfl [.cell 6 30,.tmp 7] (by kernel_rfl) (by simp[Tryz.ntmps14]) ?_
   rw[Tryz.ntmps14]
   simp -implicitDefEqProofs only[↓reduceIte,go_sem,Nat.reduceLT,reduceCtorEq,eq_self]
   refine ae.ok (hs _) ?_
   simp -implicitDefEqProofs only[↓reduceIte,go_sem,Nat.reduceLT,Nat.reduceEqDiff,eq_self]
   refine ae.ok (hc _) ?_
   simp -implicitDefEqProofs only[↓reduceIte,go_sem,Nat.reduceLT,Nat.reduceEqDiff,reduceCtorEq,eq_self,List.length_map,h4f,hw]
   refine ae.ok (hbo _) ?_
   simp -implicitDefEqProofs only[↓reduceIte,go_sem,aq,Nat.reduceAdd,Nat.reduceLT,Nat.reduceEqDiff,eq_self,he]
   refine bG.ret ?_
   simp -implicitDefEqProofs only[↓reduceIte,go_sem,ai,Nat.reduceAdd,Nat.reduceLT,Nat.reduceLeDiff,Nat.reduceEqDiff,eq_self,aO,bP,fO,dH]
 rw[if_neg he]
 obtain rfl:e=0:=by simpa using he
 by_cases hn:L.length=l.length
 ·have hnt:((L.length:Int)=(l.length:Int))=True:=eq_true (by omega)
  rw[if_pos hn]
  refine ah.ck (cs:=[.agg [iA k,iA w',iA z.rows,iA z.aB,iA z.mn.kind,iA z.mn.i,sA z.mn.s,iA z.mx.kind,iA z.mx.i,sA z.mx.s,.d (.v (.slice none 0 0)),.d (.list false (aL bb))],iA 0]) ?_
   (.cons (.agg (.cons (.refl _) (.cons (.refl _) (.cons (.refl _) (.cons (.refl _) (.cons (.refl _) (.cons (.refl _) (.cons (.refl _) (.cons (.refl _) (.cons (.refl _) (.cons (.refl _) (.cons .nil (.cons (.refl _) .nil))))))))))))) (.cons (.refl _) .nil))
  by_cases hw:w=0
  ·obtain rfl:=hw0 hw
   refine ah.bR (hint:=fun _=>false) Tryz.func14 (by kernel_rfl) rfl [.cell 6 30,.tmp 7] (by kernel_rfl) (by simp[Tryz.ntmps14]) ?_
   rw[Tryz.ntmps14]
   simp -implicitDefEqProofs only[↓reduceIte,go_sem,Nat.reduceLT,reduceCtorEq,eq_self]
   refine ae.ok (hs _) ?_
   simp -implicitDefEqProofs only[↓reduceIte,go_sem,Nat.reduceLT,Nat.reduceEqDiff,eq_self]
   refine ae.ok (hc _) ?_
   simp -implicitDefEqProofs only[↓reduceIte,go_sem,Nat.reduceLT,Nat.reduceEqDiff,reduceCtorEq,eq_self,List.length_map,h4f,hw]
   refine ae.ok (hbe _) ?_
   simp -implicitDefEqProofs only[↓reduceIte,go_sem,Nat.reduceLT,Nat.reduceEqDiff,eq_self]
   refine ae.ok (hbo _) ?_
   simp -implicitDefEqProofs only[↓reduceIte,go_sem,Nat.reduceLT,Nat.reduceEqDiff,reduceCtorEq,eq_self,List.length_map,hnt]
   refine ae.ok (hzo _) ?_
   simp -implicitDefEqProofs only[↓reduceIte,go_sem,aq,Nat.reduceAdd,Nat.reduceLT,Nat.reduceLeDiff,Nat.reduceEqDiff,eq_self,Zn.cs]
   refine bG.ret ?_
   simp -implicitDefEqProofs only[↓reduceIte,go_sem,ai,Nat.reduceAdd,Nat.reduceLT,Nat.reduceLeDiff,Nat.reduceEqDiff,eq_self,aO,bP]
  ·obtain rfl:=hw1 hw
   refine ah.bR (hint:=fun _=>false) Tryz.func14 (by kernel_rfl) rfl [.cell 6 30,.tmp 7] (by kernel_rfl) (by simp[Tryz.ntmps14]) ?_
   rw[Tryz.ntmps14]
   simp -implicitDefEqProofs only[↓reduceIte,go_sem,Nat.reduceLT,reduceCtorEq,eq_self]
   refine ae.ok (hs _) ?_
   simp -implicitDefEqProofs only[↓reduceIte,go_sem,Nat.reduceLT,Nat.reduceEqDiff,eq_self]
   refine ae.ok (hc _) ?_
   simp -implicitDefEqProofs only[↓reduceIte,go_sem,Nat.reduceLT,Nat.reduceEqDiff,reduceCtorEq,eq_self,List.length_map,h4f,hw]
   refine ae.ok (hbo _) ?_
   simp -implicitDefEqProofs only[↓reduceIte,go_sem,Nat.reduceLT,Nat.reduceEqDiff,reduceCtorEq,eq_self,List.length_map,hnt]
   refine ae.ok (hzo _) ?_
   simp -implicitDefEqProofs only[↓reduceIte,go_sem,aq,Nat.reduceAdd,Nat.reduceLT,Nat.reduceLeDiff,Nat.reduceEqDiff,eq_self,Zn.cs]
   refine bG.ret ?_
   simp -implicitDefEqProofs only[↓reduceIte,go_sem,ai,Nat.reduceAdd,Nat.reduceLT,Nat.reduceLeDiff,Nat.reduceEqDiff,eq_self,aO,bP]
 ·have hnt:((L.length:Int)=(l.length:Int))=False:=eq_false (by omega)
  rw[if_neg hn]
  by_cases hw:w=0
  ·obtain rfl:=hw0 hw
   refine ah.bR (hint:=fun _=>false) Tryz.func14 (by kernel_rfl) rfl [.cell 6 30,.tmp 7] (by kernel_rfl) (by simp[Tryz.ntmps14]) ?_
   rw[Tryz.ntmps14]
   simp -implicitDefEqProofs only[↓reduceIte,go_sem,Nat.reduceLT,reduceCtorEq,eq_self]
   refine ae.ok (hs _) ?_
   simp -implicitDefEqProofs only[↓reduceIte,go_sem,Nat.reduceLT,Nat.reduceEqDiff,eq_self]
   refine ae.ok (hc _) ?_
   simp -implicitDefEqProofs only[↓reduceIte,go_sem,Nat.reduceLT,Nat.reduceEqDiff,reduceCtorEq,eq_self,List.length_map,h4f,hw]
   refine ae.ok (hbe _) ?_
   simp -implicitDefEqProofs only[↓reduceIte,go_sem,Nat.reduceLT,Nat.reduceEqDiff,eq_self]
   refine ae.ok (hbo _) ?_
   simp -implicitDefEqProofs only[↓reduceIte,go_sem,Nat.reduceLT,Nat.reduceEqDiff,reduceCtorEq,eq_self,List.length_map,hnt]
   refine ae.ok (hzo _) ?_
   simp -implicitDefEqProofs only[↓reduceIte,go_sem,aq,Nat.reduceAdd,Nat.reduceLT,Nat.reduceLeDiff,Nat.reduceEqDiff,eq_self,Zn.cs]
   refine bG.ret ?_
   simp -implicitDefEqProofs only[↓reduceIte,go_sem,ai,Nat.reduceAdd,Nat.reduceLT,Nat.reduceLeDiff,Nat.reduceEqDiff,eq_self,aO,bP,Sg.cs]
  ·obtain rfl:=hw1 hw
   refine ah.bR (hint:=fun _=>false) Tryz.func14 (by kernel_rfl) rfl [.cell 6 30,.tmp 7] (by kernel_rfl) (by simp[Tryz.ntmps14]) ?_
   rw[Tryz.ntmps14]
   simp -implicitDefEqProofs only[↓reduceIte,go_sem,Nat.reduceLT,reduceCtorEq,eq_self]
   refine ae.ok (hs _) ?_
   simp -implicitDefEqProofs only[↓reduceIte,go_sem,Nat.reduceLT,Nat.reduceEqDiff,eq_self]
   refine ae.ok (hc _) ?_
   simp -implicitDefEqProofs only[↓reduceIte,go_sem,Nat.reduceLT,Nat.reduceEqDiff,reduceCtorEq,eq_self,List.length_map,h4f,hw]
   refine ae.ok (hbo _) ?_
   simp -implicitDefEqProofs only[↓reduceIte,go_sem,Nat.reduceLT,Nat.reduceEqDiff,reduceCtorEq,eq_self,List.length_map,hnt]
   refine ae.ok (hzo _) ?_
   simp -implicitDefEqProofs only[↓reduceIte,go_sem,aq,Nat.reduceAdd,Nat.reduceLT,Nat.reduceLeDiff,Nat.reduceEqDiff,eq_self,Zn.cs]
   refine bG.ret ?_
   simp -implicitDefEqProofs only[↓reduceIte,go_sem,ai,Nat.reduceAdd,Nat.reduceLT,Nat.reduceLeDiff,Nat.reduceEqDiff,eq_self,aO,bP,Sg.cs]
def dM(b:List Nat)(most:Nat)(k:Int):(Nat×aj)×List Nat×Int:=
 if(aN b).2.2≠0 then(zR,[],(aN b).2.2)
 else if(aN b).1=0∨most<(aN b).1 then(zR,[],4)
 else if(dG (b.drop (aN b).2.1) k).2.2≠0 then(zR,[],(dG (b.drop (aN b).2.1) k).2.2)
 else(((aN b).1,(dG (b.drop (aN b).2.1) k).1),(dG (b.drop (aN b).2.1) k).2.1,0)
theorem yS(b:List Nat)(most:Nat)(k:Int)(hm:most≤4096)(hl:b.length≤140737488351232)(hb:∀c∈b,c<256)(H:aa):
  ah Tryz.prog 149 [.d (.list false (aL b)),iA most,iA k] H (.ok (.bu [jb (dM b most k).1,.d (.list false (aL (dM b most k).2.1)),iA (dM b most k).2.2])) H:=by
 have hN:dM b most k=if(aN b).2.2≠0 then(zR,[],(aN b).2.2)else if(aN b).1=0∨most<(aN b).1 then(zR,[],4)else if(dG (b.drop (aN b).2.1) k).2.2≠0 then(zR,[],(dG (b.drop (aN b).2.1) k).2.2)else(((aN b).1,(dG (b.drop (aN b).2.1) k).1),(dG (b.drop (aN b).2.1) k).2.1,0):=rfl
 have hgd:=fun H=>iY b false (by omega) hb H
 have hgl:=jH b
 have hglt:=ju b
 have wm:=aZ most (by omega)
 rw[hN]
 clear hN
 generalize aN b=g at*
 obtain⟨n,j,e⟩:=g
 simp only at hgd hgl hglt⊢
 by_cases he:e=0
 ·subst he
  rw[if_neg (by simp)]
  by_cases h1:n=0∨most<n
  ·rw[if_pos h1]
   refine ah.ck (cs:=[jb zR,.d (.v (.slice none 0 0)),iA 4]) ?_ (.cons (.refl _) (.cons .nil (.cons (.refl _) .nil)))
   refine ah.bR (hint:=fun _=>false) Tryz.func149 (by kernel_rfl) rfl [.cell 6 165,.tmp 7,.tmp 8] (by kernel_rfl) (by simp[Tryz.ntmps149]) ?_
   rw[Tryz.ntmps149]
   simp -implicitDefEqProofs only[↓reduceIte,go_sem,Nat.reduceLT,reduceCtorEq,eq_self]
   refine ae.ok (hgd _) ?_
   by_cases h0:n=0
   ·subst h0
    simp -implicitDefEqProofs only[↓reduceIte,go_sem,aq,Nat.reduceAdd,Nat.reduceLT,Nat.reduceEqDiff,eq_self]
    refine bG.ret ?_
    simp -implicitDefEqProofs only[↓reduceIte,go_sem,ai,Nat.reduceAdd,Nat.reduceLT,Nat.reduceLeDiff,Nat.reduceEqDiff,eq_self,aO,bP,jb,zR,zV,dH]
   ·have h2:most<n:=by omega
    simp -implicitDefEqProofs only[↓reduceIte,go_sem,aq,Nat.reduceAdd,Nat.reduceLT,Nat.reduceEqDiff,reduceCtorEq,eq_self,wm,show((n:Int)=0)=False from eq_false (by omega),show((most:Int)<(n:Int))=True from eq_true (by omega)]
    refine bG.ret ?_
    simp -implicitDefEqProofs only[↓reduceIte,go_sem,ai,Nat.reduceAdd,Nat.reduceLT,Nat.reduceLeDiff,Nat.reduceEqDiff,eq_self,aO,bP,jb,zR,zV,dH]
  rw[if_neg h1]
  have c1:((n:Int)=0)=False:=eq_false (by omega)
  have c2:((most:Int)<(n:Int))=False:=eq_false (by omega)
  have hj0:((0:Int)≤(j:Int))=True:=eq_true (by omega)
  have hbt:(aL b).take b.length=aL b:=List.take_of_length_le (by rw[au];exact Nat.le_refl _)
  have hod:=fun H=>eL (b.drop j) k (by rw[List.length_drop];omega) (fun c hc=>hb c (List.mem_of_mem_drop hc)) H
  have wn:IntKind.i64.wrap (n:Int)=(n:Int):=wrap64_in _ (by omega) (by omega)
  obtain⟨p,hp⟩:=dX (b.drop j) k
  have hlr:(dG (b.drop j) k).2.1.length≤b.length:=by rw[hp,List.length_drop,List.length_drop];omega
  generalize dG (b.drop j) k=o at*
  obtain⟨v,r,f⟩:=o
  simp only at hod hlr⊢
  by_cases hf:f=0
  ·subst hf
   rw[if_neg (by simp)]
   refine ah.bR (hint:=fun _=>false) Tryz.func149 (by kernel_rfl) rfl [.cell 6 165,.tmp 7,.tmp 8] (by kernel_rfl) (by simp[Tryz.ntmps149]) ?_
   rw[Tryz.ntmps149]
   simp -implicitDefEqProofs only[↓reduceIte,go_sem,Nat.reduceLT,reduceCtorEq,eq_self]
   refine ae.ok (hgd _) ?_
   simp -implicitDefEqProofs only[↓reduceIte,go_sem,Nat.reduceLT,Nat.reduceEqDiff,reduceCtorEq,eq_self,c1,c2,wm,aS,au,hj0,hbt,dV]
   refine⟨by omega,ae.ok (hod _) ?_⟩
   simp -implicitDefEqProofs only[↓reduceIte,go_sem,ai,aq,Nat.reduceAdd,Nat.reduceLT,Nat.reduceLeDiff,Nat.reduceEqDiff,eq_self,wn]
   refine bG.ret ?_
   simp -implicitDefEqProofs only[↓reduceIte,go_sem,ai,Nat.reduceAdd,Nat.reduceLT,Nat.reduceLeDiff,Nat.reduceEqDiff,eq_self,aO,bP,jb]
  ·rw[if_pos hf]
   refine ah.ck (cs:=[jb zR,.d (.v (.slice none 0 0)),iA f]) ?_ (.cons (.refl _) (.cons .nil (.cons (.refl _) .nil)))
   refine ah.bR (hint:=fun _=>false) Tryz.func149 (by kernel_rfl) rfl [.cell 6 165,.tmp 7,.tmp 8] (by kernel_rfl) (by simp[Tryz.ntmps149]) ?_
   rw[Tryz.ntmps149]
   simp -implicitDefEqProofs only[↓reduceIte,go_sem,Nat.reduceLT,reduceCtorEq,eq_self]
   refine ae.ok (hgd _) ?_
   simp -implicitDefEqProofs only[↓reduceIte,go_sem,Nat.reduceLT,Nat.reduceEqDiff,reduceCtorEq,eq_self,c1,c2,wm,aS,au,hj0,hbt,dV]
   refine⟨by omega,ae.ok (hod _) ?_⟩
   simp -implicitDefEqProofs only[↓reduceIte,go_sem,aq,Nat.reduceAdd,Nat.reduceLT,Nat.reduceEqDiff,eq_self,hf]
   refine bG.ret ?_
   simp -implicitDefEqProofs only[↓reduceIte,go_sem,ai,Nat.reduceAdd,Nat.reduceLT,Nat.reduceLeDiff,Nat.reduceEqDiff,eq_self,aO,bP,jb,zR,zV,dH]
 ·rw[if_pos he]
  refine ah.ck (cs:=[jb zR,.d (.v (.slice none 0 0)),iA e]) ?_ (.cons (.refl _) (.cons .nil (.cons (.refl _) .nil)))
  refine ah.bR (hint:=fun _=>false) Tryz.func149 (by kernel_rfl) rfl [.cell 6 165,.tmp 7,.tmp 8] (by kernel_rfl) (by simp[Tryz.ntmps149]) ?_
  rw[Tryz.ntmps149]
  simp -implicitDefEqProofs only[↓reduceIte,go_sem,Nat.reduceLT,reduceCtorEq,eq_self]
  refine ae.ok (hgd _) ?_
  simp -implicitDefEqProofs only[↓reduceIte,go_sem,aq,Nat.reduceAdd,Nat.reduceLT,Nat.reduceEqDiff,eq_self,he]
  refine bG.ret ?_
  simp -implicitDefEqProofs only[↓reduceIte,go_sem,ai,Nat.reduceAdd,Nat.reduceLT,Nat.reduceLeDiff,Nat.reduceEqDiff,eq_self,aO,bP,jb,zR,zV,dH]
def tU(k:Int):Nat→List (Nat×aj)→Nat→List Nat→List (Nat×aj)×List Nat×Int
 |0,R,_,b=>(R,b,0)
 |f+1,R,n,b=>if n=0 then(R,b,0)else if(dM b n k).2.2≠0 then([],[],(dM b n k).2.2)else if R≠[]∧(cL R).2=(dM b n k).1.2 then([],[],4)else tU k f (R++[(dM b n k).1]) (n-(dM b n k).1.1) (dM b n k).2.1
def dT(b:List Nat)(n k:Int):List (Nat×aj)×Int:=
 if bT k=false then([],1)
 else if n<0 then([],2)
 else if 4096<n then([],2)
 else if(tU k n.toNat [] n.toNat b).2.2≠0 then([],(tU k n.toNat [] n.toNat b).2.2)
 else if(tU k n.toNat [] n.toNat b).2.1≠[]then([],4)
 else((tU k n.toNat [] n.toNat b).1,0)
theorem qC{b r:List Nat}{n:Nat}{k:Int}{q:Nat×aj}(h:dM b n k=(q,r,0)):1≤q.1∧q.1≤n∧∃j,r=b.drop j:=by
 unfold dM at h
 split at h
 ·rename_i he
  simp only[Prod.mk.injEq]at h
  exact absurd h.2.2 he
 split at h
 ·simp at h
 split at h
 ·rename_i he
  simp only[Prod.mk.injEq]at h
  exact absurd h.2.2 he
 ·rename_i h1 h2 h3
  simp only[Prod.mk.injEq,and_true]at h
  obtain⟨rfl,rfl⟩:=h
  obtain⟨j,hj⟩:=dX (b.drop (aN b).2.1) k
  refine⟨by simp only;omega,by simp only;omega,(aN b).2.1+j,by rw[hj,List.drop_drop]⟩
theorem xh(b:List Nat)(n k:Int)(hl:b.length≤140737488351232)(hb:∀c∈b,c<256)(H:aa):
  ah Tryz.prog 117 [.d (.list false (aL b)),iA n,iA k] H (.ok (.bu [.d (.list false ((dT b n k).1.map eU)),iA (dT b n k).2])) H:=by
 by_cases hk:bT k=false
 ·rw[show dT b n k=([],1)from if_pos hk]
  refine ah.ck (cs:=[.d (.v (.slice none 0 0)),iA 1]) ?_ (.cons .nil (.cons (.refl _) .nil))
  refine ah.ao (hint:=(fun _=>false)) Tryz.func117 (by kernel_rfl) rfl [6,7] (by kernel_rfl) (by decide) (by simp[Tryz.ntmps117]) ?_
  rw[Tryz.ntmps117]
  simp -implicitDefEqProofs only[↓reduceIte,go_sem,Nat.reduceLT,Nat.reduceEqDiff,eq_self]
  refine ae.ok (bK k _) ?_
  simp -implicitDefEqProofs only[↓reduceIte,go_sem,Nat.reduceLT,Nat.reduceEqDiff,Int.reduceEq,eq_self,hk,Bool.false_eq_true]
  refine aC.bC ?_
  simp -implicitDefEqProofs only[↓reduceIte,go_sem,Nat.reduceLT,Nat.reduceEqDiff,eq_self]
 rw[show dT b n k=_ from if_neg hk]
 have hk1:bT k=true:=by simpa using hk
 by_cases h1:n<0
 ·rw[if_pos h1]
  refine ah.ck (cs:=[.d (.v (.slice none 0 0)),iA 2]) ?_ (.cons .nil (.cons (.refl _) .nil))
  refine ah.ao (hint:=(fun _=>false)) Tryz.func117 (by kernel_rfl) rfl [6,7] (by kernel_rfl) (by decide) (by simp[Tryz.ntmps117]) ?_
  rw[Tryz.ntmps117]
  simp -implicitDefEqProofs only[↓reduceIte,go_sem,Nat.reduceLT,Nat.reduceEqDiff,eq_self]
  refine ae.ok (bK k _) ?_
  simp -implicitDefEqProofs only[↓reduceIte,go_sem,Nat.reduceLT,Nat.reduceEqDiff,eq_self,hk1,h1]
  refine aC.bC ?_
  simp -implicitDefEqProofs only[↓reduceIte,go_sem,Nat.reduceLT,Nat.reduceEqDiff,eq_self]
 rw[if_neg h1]
 by_cases h2:4096<n
 ·rw[if_pos h2]
  refine ah.ck (cs:=[.d (.v (.slice none 0 0)),iA 2]) ?_ (.cons .nil (.cons (.refl _) .nil))
  refine ah.ao (hint:=(fun _=>false)) Tryz.func117 (by kernel_rfl) rfl [6,7] (by kernel_rfl) (by decide) (by simp[Tryz.ntmps117]) ?_
  rw[Tryz.ntmps117]
  simp -implicitDefEqProofs only[↓reduceIte,go_sem,Nat.reduceLT,Nat.reduceEqDiff,eq_self]
  refine ae.ok (bK k _) ?_
  simp -implicitDefEqProofs only[↓reduceIte,go_sem,Nat.reduceLT,Nat.reduceEqDiff,reduceCtorEq,eq_self,hk1,h1,h2]
  refine aC.bC ?_
  simp -implicitDefEqProofs only[↓reduceIte,go_sem,Nat.reduceLT,Nat.reduceEqDiff,eq_self]
 rw[if_neg h2]
 obtain⟨m,rfl⟩:∃m:Nat,n=(m:Int):=⟨n.toNat,by omega⟩
 rw[Int.toNat_natCast]
 have h1f:((m:Int)<0)=False:=eq_false h1
 have h2f:((4096:Int)<(m:Int))=False:=eq_false h2
 obtain⟨q,hq⟩:∃q,q=tU k m [] m b:=⟨_,rfl⟩
 rw[←hq]
 suffices h:ah Tryz.prog 117 [.d (.list false (aL b)),iA m,iA k] H (.ok (if q.2.2≠0 then .bu [.d (.v (.slice none 0 0)),iA q.2.2]else if q.2.1≠[]then .bu [.d (.v (.slice none 0 0)),iA 4]else .bu [.d (.list false (q.1.map eU)),iA 0])) H by
  by_cases c1:q.2.2≠0
  ·rw[if_pos c1]at h⊢
   exact ah.ck h (.cons .nil (.cons (.refl _) .nil))
  ·rw[if_neg c1]at h⊢
   by_cases c2:q.2.1≠[]
   ·rw[if_pos c2]at h⊢
    exact ah.ck h (.cons .nil (.cons (.refl _) .nil))
   ·rw[if_neg c2]at h⊢
    exact h
 refine ah.ao (hint:=(fun _=>false)) Tryz.func117 (by kernel_rfl) rfl [6,7] (by kernel_rfl) (by decide) (by simp[Tryz.ntmps117]) ?_
 rw[Tryz.ntmps117]
 simp -implicitDefEqProofs only[↓reduceIte,go_sem,Nat.reduceLT,Nat.reduceEqDiff,eq_self]
 refine ae.ok (bK k _) ?_
 simp -implicitDefEqProofs only[↓reduceIte,go_sem,Nat.reduceLT,Nat.reduceEqDiff,reduceCtorEq,eq_self,hk1,h1f,h2f]
 refine cK _ _ _ _ (fun(x:Nat×List (Nat×aj)×Nat×List Nat) s H'=>H'=H++[.arr 165 4 x.2.1.length (x.2.1.map eU)]∧tU k x.1 x.2.1 x.2.2.1 x.2.2.2=q∧x.2.2.1≤x.1∧x.2.1.length+x.1≤4096∧x.2.2.2.length≤b.length∧(∀y∈x.2.2.2,y<256)∧s 0= .d (.list false (aL x.2.2.2))∧s 1=iA x.2.2.1∧s 2=iA k∧s 10= .sl H.length x.2.1.length 0 x.2.1.length) (fun x=>x.2.2.1) (m,[],m,b) (az.fg _ _ 10 165 4 (by decide) (by simp -implicitDefEqProofs only[↓reduceIte,go_sem,Nat.reduceLT,eq_self]) _) ?_ ?_
 ·refine⟨rfl,hq.symm,Nat.le_refl _,by simp;omega,Nat.le_refl _,hb,?_⟩
  simp -implicitDefEqProofs only[↓reduceIte,go_sem,Nat.reduceEqDiff,reduceCtorEq,eq_self,List.length_nil]
 ·rintro⟨f,R,n,c⟩ s H' ⟨rfl,hT,hnf,hRf,hcl,hcb,t0,t1,t2,t10⟩
  simp only at hT hnf hRf hcl hcb t0 t1 t10⊢
  by_cases hn0:n=0
  ·subst hn0
   have hq2:q=(R,c,0):=by rw[←hT];cases f<;>simp[tU]
   rw[hq2]
   by_cases hc:c=[]
   ·subst hc
    simp -implicitDefEqProofs only[↓reduceIte,go_sem,Nat.reduceLT,Nat.reduceEqDiff,Int.reduceLT,reduceCtorEq,eq_self,t0,t1,t10,au,List.length_nil]
    refine aC.ret ?_
    simp -implicitDefEqProofs only[↓reduceIte,go_sem,Nat.reduceLT,Nat.reduceEqDiff,eq_self,ne_eq,not_true_eq_false,List.take_of_length_le (show(R.map eU).length≤R.length by rw[List.length_map];exact Nat.le_refl _)]
   ·have hcp:=List.length_pos_iff.2 hc
    simp -implicitDefEqProofs only[↓reduceIte,go_sem,Nat.reduceLT,Int.reduceLT,reduceCtorEq,eq_self,t0,t1,au,show(0<(c.length:Int))=True from eq_true (by omega)]
    refine aC.ret ?_
    simp -implicitDefEqProofs only[↓reduceIte,go_sem,Nat.reduceLT,Nat.reduceEqDiff,eq_self,ne_eq,hc,not_true_eq_false,not_false_eq_true]
  ·obtain⟨f,rfl⟩:∃g,f=g+1:=⟨f-1,by omega⟩
   have hnx:=fun H=>yS c n k (by omega) (by omega) hcb H
   have hnk:=fun q r=>qC (b:=c) (n:=n) (k:=k) (q:=q) (r:=r)
   have hTe:tU k (f+1) R n c=if n=0 then(R,c,0)else if(dM c n k).2.2≠0 then([],[],(dM c n k).2.2)else if R≠[]∧(cL R).2=(dM c n k).1.2 then([],[],4)else tU k f (R++[(dM c n k).1]) (n-(dM c n k).1.1) (dM c n k).2.1:=rfl
   rw[hTe,if_neg hn0]at hT
   clear hTe
   generalize dM c n k=x at*
   obtain⟨⟨rn,v⟩,r,e⟩:=x
   simp only at hT hnx
   simp -implicitDefEqProofs only[↓reduceIte,go_sem,Nat.reduceLT,Nat.reduceEqDiff,reduceCtorEq,eq_self,t0,t1,t2,show(0<(n:Int))=True from eq_true (by omega)]
   refine ae.ok (hnx _) ?_
   by_cases he:e=0
   ·subst he
    rw[if_neg (by simp)]at hT
    obtain⟨g1,g2,p,g3⟩:=hnk _ _ rfl
    simp only at g1 g2
    have hrl:r.length≤b.length:=by rw[g3,List.length_drop];omega
    have hrb:∀y∈r,y<256:=fun y hy=>hcb y (by rw[g3]at hy;exact List.mem_of_mem_drop hy)
    have hld:=rE R (H++[.arr 165 4 R.length (R.map eU),.box 165 4 0 1 [iA rn,iA v.kind,iA v.i,sA v.s]]) H.length R.length (by omega) (by simp)
    have hw:IntKind.i64.wrap ((n:Int)-(rn:Int))=((n-rn:Nat):Int):=by rw[wrap64_in _ (by omega) (by omega)];omega
    simp -implicitDefEqProofs only[↓reduceIte,go_sem,aq,Nat.reduceAdd,Nat.reduceLT,Nat.reduceEqDiff,eq_self,jb,t10]
    refine ae.ok hld ?_
    by_cases hR0:R=[]
    ·subst hR0
     rw[if_neg (by simp)]at hT
     simp -implicitDefEqProofs only[↓reduceIte,go_sem,ai,aq,Nat.reduceAdd,Nat.reduceLT,Nat.reduceLeDiff,Nat.reduceEqDiff,reduceCtorEq,eq_self,jb,cL,zR,zV,dH,List.getLast?_nil,Option.getD_none,ne_eq,not_true_eq_false,decide_false,t1,t10,List.length_nil,hw]
     refine⟨_,_,(f,[(rn,v)],n-rn,r),az.cut [.arr 165 4 1 [[.v (.int .i64 rn),.v (.int .i64 v.kind),.v (.int .i64 v.i),.v (.string v.s)]]] [.box 165 4 0 1 [iA rn,iA v.kind,iA v.i,sA v.s],.box 165 4 0 1 [iA 0,iA 0,iA 0,sA ⟨#[]⟩]] 1 rfl _ (by simp -implicitDefEqProofs only[go_sem,eq_self]),⟨rfl,hT,by simp only;omega,by simp only[List.length_singleton]at*;simp only[List.length_nil]at hRf;omega,hrl,hrb,?_⟩,by simp only;omega⟩
     simp -implicitDefEqProofs only[↓reduceIte,go_sem,Nat.reduceLT,Nat.reduceEqDiff,reduceCtorEq,eq_self,t2,List.length_singleton]
    ·by_cases h2:(cL R).2=v
     ·rw[if_pos ⟨hR0,h2⟩]at hT
      subst hT
      generalize cL R=z at*
      obtain⟨m2,w⟩:=z
      simp only at h2
      subst h2
      simp -implicitDefEqProofs only[↓reduceIte,go_sem,ai,aq,Nat.reduceAdd,Nat.reduceLT,Nat.reduceEqDiff,Int.reduceEq,eq_self,jb,ne_eq,hR0,not_false_eq_true,decide_true,jn]
      refine aC.ret ?_
      simp -implicitDefEqProofs only[↓reduceIte,go_sem,Nat.reduceLT,Nat.reduceEqDiff,Int.reduceEq,eq_self,not_false_eq_true]
     ·rw[if_neg (fun h=>h2 h.2)]at hT
      generalize cL R=z at*
      obtain⟨m2,w⟩:=z
      simp only at h2
      simp -implicitDefEqProofs only[↓reduceIte,go_sem,ai,aq,Nat.reduceAdd,Nat.reduceLT,Nat.reduceLeDiff,Nat.reduceEqDiff,reduceCtorEq,eq_self,jb,ne_eq,hR0,not_false_eq_true,decide_true,jn,h2,decide_false,t1,t10,List.length_map,hw]
      have hsn:R.map eU++[[D.v (.int .i64 rn),.v (.int .i64 v.kind),.v (.int .i64 v.i),.v (.string v.s)]]=(R++[(rn,v)]).map eU:=by simp[eU]
      have hln:(R++[(rn,v)]).length=R.length+1:=by simp
      refine⟨by omega,by omega,_,_,(f,R++[(rn,v)],n-rn,r),az.cut [.arr 165 4 (R.length+1) (R.map eU++[[.v (.int .i64 rn),.v (.int .i64 v.kind),.v (.int .i64 v.i),.v (.string v.s)]])] [.box 165 4 0 1 [iA rn,iA v.kind,iA v.i,sA v.s],.box 165 4 0 1 [iA m2,iA w.kind,iA w.i,sA w.s]] 1 rfl _ (by simp -implicitDefEqProofs only[go_sem,eq_self]),⟨by simp only[hsn,hln],hT,by simp only;omega,by simp only[hln];omega,hrl,hrb,?_⟩,by simp only;omega⟩
      simp -implicitDefEqProofs only[↓reduceIte,go_sem,Nat.reduceLT,Nat.reduceEqDiff,reduceCtorEq,eq_self,t2,hln]
   ·rw[if_pos he]at hT
    subst hT
    simp -implicitDefEqProofs only[↓reduceIte,go_sem,aq,Nat.reduceAdd,Nat.reduceLT,Nat.reduceEqDiff,eq_self,he,jb]
    refine aC.ret ?_
    simp -implicitDefEqProofs only[↓reduceIte,go_sem,Nat.reduceLT,Nat.reduceEqDiff,eq_self]
theorem CZ(a:Nat)(ha:a<18446744073709551616):IntKind.u64.wrap (tO .u64 (a:Int) 4294967295)=((a%4294967296:Nat):Int):=by
 have h:=bits_and_u64_nat a 4294967295 ha (by omega)
 have e:a&&&4294967295=a%4294967296:=Nat.and_two_pow_sub_one_eq_mod a 32
 rw[e]at h
 exact h
theorem J2(a:Nat):iI .u64 (a:Int) 32=((a/4294967296:Nat):Int):=by
 show(a:Int).fdiv (4294967296:Int)=_
 rw[Int.fdiv_eq_ediv_of_nonneg _ (by omega)]
 omega
theorem nX(a:Nat)(ha:a<18446744073709551616):IntKind.u64.wrap (a:Int)=(a:Int):=lN _ (by omega) (by omega)
theorem Jb(a:Nat):IntKind.u64.wrap (a:Int)=((a%18446744073709551616:Nat):Int):=by
 simp[IntKind.wrap,IntKind.signed,IntKind.bits]
theorem xQ(x y:Nat)(hx:x<18446744073709551616)(hy:y<18446744073709551616)(H:aa):
  ah Tryz.prog 178 [du x,du y] H (.ok (.bu [du (x* y/18446744073709551616),du (x* y%18446744073709551616)])) H:=by
 obtain⟨bd,bt,bw,hhi⟩:=Lib.mul64_hi x y hx hy
 have ba:=Lib.half_mul_le (a:=x/4294967296) (b:=y/4294967296) (by omega) (by omega)
 have bb:=Lib.half_mul_le (a:=x/4294967296) (b:=y%4294967296) (by omega) (by omega)
 have bc:=Lib.half_mul_le (a:=x%4294967296) (b:=y/4294967296) (by omega) (by omega)
 have ba':x/4294967296* (y/4294967296)<18446744073709551616:=by omega
 have bb':x/4294967296* (y%4294967296)<18446744073709551616:=by omega
 have bc':x%4294967296* (y/4294967296)<18446744073709551616:=by omega
 have bh1:x/4294967296* (y/4294967296)+(x/4294967296* (y%4294967296)+x%4294967296* (y%4294967296)/4294967296)/4294967296<18446744073709551616:=by omega
 have bh:x/4294967296* (y/4294967296)+(x/4294967296* (y%4294967296)+x%4294967296* (y%4294967296)/4294967296)/4294967296+((x/4294967296* (y%4294967296)+x%4294967296* (y%4294967296)/4294967296)%4294967296+x%4294967296* (y/4294967296))/4294967296<18446744073709551616:=by omega
 refine ah.ao (hint:=(fun _=>false)) Tryz.func178 (by kernel_rfl) rfl [4,5] (by kernel_rfl) (by decide) (by simp[Tryz.ntmps178]) ?_
 rw[Tryz.ntmps178]
 simp -implicitDefEqProofs only[↓reduceIte,go_sem,Nat.reduceLT,Nat.reduceEqDiff,Int.reduceLE,reduceCtorEq,eq_self,du]
 refine aC.bC ?_
 simp -implicitDefEqProofs only[↓reduceIte,go_sem,Nat.reduceLT,Nat.reduceEqDiff,eq_self]
 simp only[CZ x hx,CZ y hy,J2,←Int.natCast_mul,←Int.natCast_add,nX _ bd,nX _ bb',nX _ bt,CZ _ bt,nX _ bc',nX _ bw,nX _ ba',nX _ bh1,Jb (x* y),hhi]
 rw[nX _ (by rw[←hhi];exact bh)]
theorem Ci(x y:Nat)(hx:x<18446744073709551616)(hy:y<18446744073709551616)(H:aa):ah Tryz.prog 171 [du x,du y] H (.ok (.bu [du (x* y/18446744073709551616),du (x* y%18446744073709551616)])) H:=by
 have hm:=fun H=>xQ x y hx hy H
 generalize x* y/18446744073709551616=p at*
 generalize x* y%18446744073709551616=q at*
 refine ah.ao (hint:=(fun _=>false)) Tryz.func171 (by kernel_rfl) rfl [4,5] (by kernel_rfl) (by decide) (by simp[Tryz.ntmps171]) ?_
 rw[Tryz.ntmps171]
 simp -implicitDefEqProofs only[↓reduceIte,go_sem,Nat.reduceLT,Nat.reduceEqDiff,reduceCtorEq,eq_self]
 refine ae.ok (hm _) ?_
 simp -implicitDefEqProofs only[↓reduceIte,go_sem,Nat.reduceLT,Nat.reduceEqDiff,eq_self]
 refine aC.bC ?_
 simp -implicitDefEqProofs only[↓reduceIte,go_sem,Nat.reduceLT,Nat.reduceEqDiff,eq_self]
def zE:List D:=[.v (.int .i64 0),.v (.int .i64 0),.v (.string ⟨#[]⟩)]
def ma(v:aj)(m n:Nat):List (List D):=List.replicate n v.enc++List.replicate (m-n) zE
theorem Dr(v:aj){m n:Nat}(h:n≤m):(ma v m n).length=m:=by simp[ma];omega
theorem yY(v:aj)(m n k:Nat):∀c∈(ma v m n).take k,c.length=3:=by
 intro c hc
 have:=List.mem_of_mem_take hc
 unfold ma at this
 rcases List.mem_append.1 this with h|h<;>rw[List.eq_of_mem_replicate h]<;>rfl
theorem BP(v:aj){m n:Nat}(h:n≤m)(h0:0<n):bU (ma v m n) n (((ma v m n).take n).take (min n (m-n)))=ma v m (n+min n (m-n)):=by
 have e1:(ma v m n).take n=List.replicate n v.enc:=by
  unfold ma
  rw[List.take_left' (by simp)]
 rw[e1,List.take_replicate,show min (min n (m-n)) n=min n (m-n) by omega]
 unfold bU
 rw[e1]
 unfold ma
 rw[←List.replicate_append_replicate (n:=n) (m:=min n (m-n)),List.length_replicate,List.drop_append,List.length_replicate]
 rw[List.drop_eq_nil_of_le (by simp),List.nil_append,List.drop_replicate]
 congr 2
 omega
theorem vX(v:aj)(nn:Bool)(m:Nat)(hm:m≤4096)(H:aa):ah Tryz.prog 150 [.d (.list nn [v.enc]),iA m] H (.ok (.d (.list false (List.replicate m v.enc)))) H:=by
 have w1:IntKind.u64.wrap 1=1:=by decide
 have w2:IntKind.u64.wrap (m:Int)=(m:Int):=by simp[IntKind.wrap,IntKind.signed,IntKind.bits];omega
 have w3:IntKind.i64.wrap (m:Int)=(m:Int):=wrap64_in _ (by omega) (by omega)
 have hmul:=fun H=>Ci 1 m (by omega) (by omega) H
 rw[Nat.one_mul,Nat.div_eq_of_lt (by omega),Nat.mod_eq_of_lt (by omega)]at hmul
 have hcopy:bU (List.replicate m zE) 0 ([v.enc].take (min 1 m))=ma v m (min 1 m):=by
  unfold bU ma
  rcases Nat.eq_zero_or_pos m with h|h
  ·subst h;rfl
  ·rw[show min 1 m=1 by omega]
   simp
 unfold zE at hcopy
 have hc1:(∀c∈[v.enc],c.length=3)=True:=eq_true fun c hc=>by rw[List.mem_singleton.1 hc];rfl
 have hvl:v.enc.length=3:=rfl
 generalize hV:v.enc=V at*
 refine ah.ao (hint:=(fun _=>false)) Tryz.func150 (by kernel_rfl) rfl [4] (by kernel_rfl) (by decide) (by simp[Tryz.ntmps150]) ?_
 rw[Tryz.ntmps150]
 simp -implicitDefEqProofs only[↓reduceIte,go_sem,Nat.reduceLT,Nat.reduceEqDiff,reduceCtorEq,eq_self,show((m:Int)<0)=False from eq_false (by omega),w1,w2]
 refine ae.ok (hmul _) ?_
 simp -implicitDefEqProofs only[↓reduceIte,go_sem,Nat.reduceLT,Nat.reduceEqDiff,Int.reduceLT,reduceCtorEq,eq_self,w3,show((9223372036854775807:Int)<(m:Int))=False from eq_false (by omega)]
 refine⟨⟨by omega,by omega⟩,hvl,?_⟩
 refine cK _ _ _ _ (fun(n:Nat) s H'=>H'=H++[.arr 25 3 0 (ma v m n)]∧n≤m∧(0<n∨m=0)∧s 7= .sl H.length 0 0 m∧s 8=iA n) (fun n=>m-n) (min 1 m) (az.refl _ _) ?_ ?_
 ·refine⟨by simp -implicitDefEqProofs only[go_sem,eq_self,hcopy],by omega,by omega,?_⟩
  simp -implicitDefEqProofs only[↓reduceIte,go_sem,Nat.reduceLT,Nat.reduceEqDiff,eq_self]
 ·rintro n s H' ⟨rfl,hn,h0,t7,t8⟩
  have hlen:=Dr v hn
  by_cases hlt:n<m
  ·have hst:=BP v hn (by omega)
   have w4:IntKind.i64.wrap ((n:Int)+((min n (m-n):Nat):Int))=((n+min n (m-n):Nat):Int):=by rw[wrap64_in _ (by omega) (by omega)];omega
   obtain⟨q,hq⟩:∃q,q=n+min n (m-n):=⟨_,rfl⟩
   rw[←hq]at w4 hst
   simp -implicitDefEqProofs only[↓reduceIte,go_sem,Nat.reduceLT,Nat.reduceEqDiff,eq_self,t7,t8,show((n:Int)<(m:Int))=True from eq_true (by omega)]
   refine dC [some false,some false,some false,some false,some false,some false,some false,some true] 7 H K.mixed (by kernel_rfl) (by kernel_rfl) (by kernel_rfl) (Ext.app H _) ?_
   simp -implicitDefEqProofs only[↓reduceIte,go_sem,Nat.reduceLT,Nat.reduceEqDiff,Int.reduceLE,Int.reduceToNat,eq_self,t7,t8,Nat.sub_zero,List.length_take,hlen,Nat.min_eq_left hn,w4,hst]
   refine⟨hn,.inr hlt,hn,.inr (by omega),fun c hc=>yY v m n n c hc,_,_,q,az.refl _ _,⟨rfl,by omega,by omega,?_⟩,by omega⟩
   simp -implicitDefEqProofs only[↓reduceIte,go_sem,Nat.reduceLT,Nat.reduceEqDiff,eq_self,t7]
  ·obtain rfl:n=m:=by omega
   simp -implicitDefEqProofs only[↓reduceIte,go_sem,Nat.reduceLT,Nat.reduceEqDiff,eq_self,t7,t8]
   refine aC.ret ?_
   have hrr:ma v n n=List.replicate n v.enc:=by unfold ma;rw[Nat.sub_self];simp
   rw[hV]at hrr
   simp -implicitDefEqProofs only[↓reduceIte,go_sem,Nat.reduceLT,eq_self,hrr,List.take_of_length_le (show(List.replicate n V).length≤n by simp)]
def cd(l:List aj)(r:Nat×aj):List aj:=l++List.replicate (min r.1 (4096-l.length)) r.2
def cO(R:List (Nat×aj)):List aj:=R.foldl cd []
theorem tF(R:List (Nat×aj))(r:Nat×aj):cO (R++[r])=cd (cO R) r:=by simp[cO]
theorem pB(l:List aj)(r:Nat×aj)(h:l.length≤4096):(cd l r).length≤4096:=by simp[cd];omega
theorem o7(R:List (Nat×aj)):(cO R).length≤4096:=by
 have:∀(R:List (Nat×aj)) (l:List aj),l.length≤4096→(R.foldl cd l).length≤4096:=by
  intro R
  induction R with
  |nil=>exact fun l h=>h
  |cons r R ih=>exact fun l h=>ih _ (pB l r h)
 exact this R [] (by simp)
theorem vb(R:List (Nat×aj))(nn:Bool)(hl:R.length≤1000000)(hn:∀r∈R,r.1≤1000000000)(H:aa):ah Tryz.prog 118 [.d (.list nn (R.map eU))] H (.ok (.d (.list false ((cO R).map aj.enc)))) H:=by
 refine ah.ao (hint:=(fun _=>false)) Tryz.func118 (by kernel_rfl) rfl [2] (by kernel_rfl) (by decide) (by simp[Tryz.ntmps118]) ?_
 rw[Tryz.ntmps118]
 simp -implicitDefEqProofs only[↓reduceIte,go_sem,Nat.reduceLT,reduceCtorEq,eq_self]
 refine bD (fun k s H'=>∃ver,H'=H++[.arr 25 3 ver ((cO (R.take k)).map aj.enc)]∧s 3= .sl H.length ver 0 (cO (R.take k)).length∧s 6= .d (.list nn (R.map eU))∧s 7=iA R.length∧s 8=iA k) R.length (by omega) (az.fg _ _ 3 25 3 (by decide) (by simp -implicitDefEqProofs only[↓reduceIte,go_sem,Nat.reduceLT,Nat.reduceEqDiff,eq_self]) _) ?_ ?_ ?_
 ·refine⟨0,rfl,?_⟩
  simp -implicitDefEqProofs only[↓reduceIte,go_sem,Nat.reduceLT,Nat.reduceEqDiff,eq_self]
  rfl
 ·rintro k s H' hk hw ⟨ver,rfl,t3,t6,t7,t8⟩
  have hx:(R.map eU)[k]?=some [.v (.int .i64 (R[k].1:Int)),.v (.int .i64 R[k].2.kind),.v (.int .i64 R[k].2.i),.v (.string R[k].2.s)]:=by rw[List.getElem?_map,List.getElem?_eq_getElem hk];rfl
  have e1:cO (R.take (k+1))=cd (cO (R.take k)) R[k]:=by rw[List.take_succ_eq_append_getElem hk,tF]
  have hll:=o7 (R.take k)
  have hnk:=hn _ (List.getElem_mem hk)
  rw[e1]
  generalize cO (R.take k)=L at*
  generalize R[k]=r at*
  obtain⟨n,v⟩:=r
  simp only at hnk hx
  obtain⟨q,hq⟩:∃q,q=min n (4096-L.length):=⟨_,rfl⟩
  have hmx:max (n:Int) 0=(n:Int):=by omega
  have hmn:min (n:Int) (4096-(L.length:Int))=(q:Int):=by omega
  have wl:IntKind.i64.wrap (4096-(L.length:Int))=4096-(L.length:Int):=wrap64_in _ (by omega) (by omega)
  have hr:=fun H=>vX v true q (by omega) H
  have hst:(cd L (n,v)).map aj.enc=L.map aj.enc++List.replicate q v.enc:=by
   unfold cd
   rw[List.map_append,List.map_replicate,hq]
  have hsl:(cd L (n,v)).length=L.length+q:=by unfold cd;rw[List.length_append,List.length_replicate,hq]
  have h3:(∀c∈List.replicate q v.enc,c.length=3)=True:=eq_true fun c hc=>by rw[List.eq_of_mem_replicate hc];rfl
  have happ:L.map aj.enc++List.replicate q [D.v (.int .i64 v.kind),.v (.int .i64 v.i),.v (.string v.s)]=(cd L (n,v)).map aj.enc:=hst.symm
  unfold aj.enc at hr h3
  simp -implicitDefEqProofs only[↓reduceIte,go_sem,ai,aq,Nat.reduceAdd,Nat.reduceLT,Nat.reduceLeDiff,Nat.reduceEqDiff,eq_self,t3,t6,t7,t8,hk,hx,hmx,wl,hmn]
  refine ae.ok (hr _) ?_
  simp -implicitDefEqProofs only[↓reduceIte,go_sem,Nat.reduceAdd,Nat.reduceLT,Nat.reduceEqDiff,eq_self,t8,h3,List.length_map,List.length_replicate,happ]
  refine⟨by omega,by omega,?_⟩
  refine fj.cut [.arr 25 3 (ver+1) ((cd L (n,v)).map aj.enc)] _ 1 rfl rfl (by simp -implicitDefEqProofs only[go_sem,eq_self]) ?_
  refine⟨ver+1,rfl,?_⟩
  simp -implicitDefEqProofs only[↓reduceIte,go_sem,Nat.reduceLT,Nat.reduceEqDiff,eq_self,t6,t7,hw,hsl]
 ·rintro s H' ⟨ver,rfl,t3,t6,t7,t8⟩
  rw[List.take_length]at*
  simp -implicitDefEqProofs only[↓reduceIte,go_sem,Nat.reduceLT,Nat.reduceEqDiff,eq_self,t3,t7,t8]
  refine aC.ret ?_
  simp -implicitDefEqProofs only[↓reduceIte,go_sem,Nat.reduceLT,eq_self,List.take_of_length_le (show((cO R).map aj.enc).length≤(cO R).length by rw[List.length_map];exact Nat.le_refl _)]
def fT(b:List Nat)(n k:Int):List aj×Int:=if(dT b n k).2≠0 then([],(dT b n k).2)else(cO (dT b n k).1,0)
theorem GG(k:Int):∀(f:Nat) (R:List (Nat×aj)) (n:Nat) (b:List Nat) (m:Nat),n≤m→R.length+n≤4096→(∀r∈R,r.1≤m)→(tU k f R n b).1.length≤4096∧∀r∈(tU k f R n b).1,r.1≤m:=by
 intro f
 induction f with
 |zero=>intro R n b m h1 h2 h3;exact⟨by simp only[tU];omega,h3⟩
 |succ f ih=>
  intro R n b m h1 h2 h3
  unfold tU
  split
  ·exact⟨by simp only;omega,h3⟩
  rename_i hn0
  split
  ·exact⟨by simp,by simp⟩
  rename_i he
  split
  ·exact⟨by simp,by simp⟩
  obtain⟨q,r,e,hq⟩:∃q r e,dM b n k=(q,r,e):=⟨_,_,_,rfl⟩
  rw[hq]at he⊢
  obtain rfl:e=0:=by simpa using he
  obtain⟨g1,g2,_⟩:=qC hq
  refine ih _ _ _ m (by simp only;omega) (by simp only[List.length_append,List.length_singleton];omega) ?_
  intro x hx
  rcases List.mem_append.1 hx with h|h
  ·exact h3 x h
  ·rw[List.mem_singleton.1 h];simp only;omega
theorem Ct(b:List Nat)(n k:Int):(dT b n k).1.length≤4096∧∀r∈(dT b n k).1,r.1≤4096:=by
 unfold dT
 split
 ·exact⟨by simp,by simp⟩
 split
 ·exact⟨by simp,by simp⟩
 split
 ·exact⟨by simp,by simp⟩
 split
 ·exact⟨by simp,by simp⟩
 split
 ·exact⟨by simp,by simp⟩
 exact GG k _ [] _ b 4096 (by omega) (by simp;omega) (by simp)
theorem xq(b:List Nat)(n k:Int)(hl:b.length≤140737488351232)(hb:∀c∈b,c<256)(H:aa):
  ah Tryz.prog 82 [.d (.list false (aL b)),iA n,iA k] H (.ok (.bu [.d (.list false ((fT b n k).1.map aj.enc)),iA (fT b n k).2])) H:=by
 have ht:=fun H=>xh b n k hl hb H
 obtain⟨h1,h2⟩:=Ct b n k
 unfold fT
 generalize dT b n k=q at*
 obtain⟨R,e⟩:=q
 simp only at ht h1 h2⊢
 have hs:=fun H=>vb R false (by omega) (fun r hr=>by have:=h2 r hr;omega) H
 by_cases he:e=0
 ·rw[if_neg (by simpa using he)]
  subst he
  refine ah.ao (hint:=(fun _=>false)) Tryz.func82 (by kernel_rfl) rfl [6,7] (by kernel_rfl) (by decide) (by simp[Tryz.ntmps82]) ?_
  rw[Tryz.ntmps82]
  simp -implicitDefEqProofs only[↓reduceIte,go_sem,Nat.reduceLT,Nat.reduceEqDiff,reduceCtorEq,eq_self]
  refine ae.ok (ht _) ?_
  simp -implicitDefEqProofs only[↓reduceIte,go_sem,Nat.reduceLT,Nat.reduceEqDiff,eq_self]
  refine ae.ok (hs _) ?_
  simp -implicitDefEqProofs only[↓reduceIte,go_sem,Nat.reduceLT,eq_self]
  refine aC.bC ?_
  simp -implicitDefEqProofs only[↓reduceIte,go_sem,Nat.reduceLT,Nat.reduceEqDiff,eq_self]
 ·rw[if_pos he]
  refine ah.ck (cs:=[.d (.v (.slice none 0 0)),iA e]) ?_ (.cons .nil (.cons (.refl _) .nil))
  refine ah.ao (hint:=(fun _=>false)) Tryz.func82 (by kernel_rfl) rfl [6,7] (by kernel_rfl) (by decide) (by simp[Tryz.ntmps82]) ?_
  rw[Tryz.ntmps82]
  simp -implicitDefEqProofs only[↓reduceIte,go_sem,Nat.reduceLT,Nat.reduceEqDiff,reduceCtorEq,eq_self]
  refine ae.ok (ht _) ?_
  simp -implicitDefEqProofs only[↓reduceIte,go_sem,Nat.reduceLT,Nat.reduceEqDiff,eq_self,he]
  refine aC.bC ?_
  simp -implicitDefEqProofs only[↓reduceIte,go_sem,Nat.reduceLT,Nat.reduceEqDiff,eq_self]
theorem vh(b:List Nat)(n k:Int)(hl:b.length≤140737488351232)(hb:∀c∈b,c<256)(G:aa)(id:Nat)(h:G[id]?=some (kB k)):
  ah Tryz.prog 81 [.d (.list false (aL b)),iA n,.ptr id 0 0 0] G (.ok (.bu [.d (.list false ((fT b n k).1.map aj.enc)),iA (fT b n k).2])) G:=by
 have hd:=fun H=>xq b n k hl hb H
 unfold kB at h
 refine ah.ao (hint:=(fun _=>false)) Tryz.func81 (by kernel_rfl) rfl [5,6] (by kernel_rfl) (by decide) (by simp[Tryz.ntmps81]) ?_
 rw[Tryz.ntmps81]
 simp -implicitDefEqProofs only[↓reduceIte,go_sem,ai,Nat.reduceLT,Nat.reduceEqDiff,reduceCtorEq,eq_self,h]
 refine ae.ok (hd _) ?_
 simp -implicitDefEqProofs only[↓reduceIte,go_sem,Nat.reduceLT,Nat.reduceEqDiff,eq_self]
 refine aC.bC ?_
 simp -implicitDefEqProofs only[↓reduceIte,go_sem,Nat.reduceLT,Nat.reduceEqDiff,eq_self]
def qU(x:Int)(S:List Nat):Nat→Int
 |0=>x
 |k+1=>IntKind.i64.wrap (qU x S k+eE (S.getD k 0))
def ig(x:Int)(S:List Nat)(n:Nat):List aj:=(List.range n).map fun k=>ct (qU x S k)
theorem gJ(x:Int)(S:List Nat)(n:Nat):(ig x S n).length=n:=by simp[ig]
theorem Bv(x:Int)(S:List Nat)(n:Nat):ig x S (n+1)=ig x S n++[ct (qU x S n)]:=by simp[ig,List.range_succ]
theorem Dv(x:Int)(S:List Nat){n k:Nat}(h:k<n):(ig x S n)[k]?=some (ct (qU x S k)):=by simp[ig,h]
def H5(b:List Nat)(n:Nat):Option (List aj)×Int:=
 if(aN b).2.2≠0 then(none,(aN b).2.2)
 else if(aN (b.drop (aN b).2.1)).2.2≠0 then(none,(aN (b.drop (aN b).2.1)).2.2)
 else if 64<(aN (b.drop (aN b).2.1)).1 then(none,4)
 else if bO (b.drop ((aN b).2.1+(aN (b.drop (aN b).2.1)).2.1)) (n-1) (aN (b.drop (aN b).2.1)).1≠0 then(none,bO (b.drop ((aN b).2.1+(aN (b.drop (aN b).2.1)).2.1)) (n-1) (aN (b.drop (aN b).2.1)).1)
 else if db (bJ (b.drop ((aN b).2.1+(aN (b.drop (aN b).2.1)).2.1)) (n-1) (aN (b.drop (aN b).2.1)).1)≠(aN (b.drop (aN b).2.1)).1 then(none,4)
 else(some (ig (eE (aN b).1) (bJ (b.drop ((aN b).2.1+(aN (b.drop (aN b).2.1)).2.1)) (n-1) (aN (b.drop (aN b).2.1)).1) n),0)
def sa(b:List Nat)(n:Int):Option (List aj)×Int:=
 if n<0∨4096<n then(none,2)
 else if n=0 then(none,if 0<b.length then 4 else 0)
 else H5 b n.toNat
def ka:Option (List aj)→AV
 |some l=> .d (.list false (l.map aj.enc))
 |none=> .d (.v (.slice none 0 0))
theorem Fy(b:List Nat)(n:Int)(nn:Bool)(hl:b.length≤140737488351232)(hb:∀c∈b,c<256)(H:aa):
  ah Tryz.prog 88 [.d (.list nn (aL b)),iA n] H (.ok (.bu [ka (sa b n).1,iA (sa b n).2])) H:=by
 refine ah.ao (hint:=(fun t=>t==79)) Tryz.func88 (by kernel_rfl) rfl [4,5] (by kernel_rfl) (by decide) (by simp[Tryz.ntmps88]) ?_
 rw[Tryz.ntmps88]
 by_cases h1:n<0
 ·simp -implicitDefEqProofs only[↓reduceIte,go_sem,Nat.reduceLT,Nat.reduceEqDiff,eq_self,h1]
  refine aC.bC ?_
  simp -implicitDefEqProofs only[↓reduceIte,go_sem,Nat.reduceLT,Nat.reduceEqDiff,eq_self]
  simp[sa,h1,ka]
 by_cases h2:4096<n
 ·simp -implicitDefEqProofs only[↓reduceIte,go_sem,Nat.reduceLT,Nat.reduceEqDiff,reduceCtorEq,eq_self,h1,h2]
  refine aC.bC ?_
  simp -implicitDefEqProofs only[↓reduceIte,go_sem,Nat.reduceLT,Nat.reduceEqDiff,eq_self]
  simp[sa,h2,ka]
 by_cases h3:n=0
 ·subst h3
  by_cases h4:0<b.length
  ·have h4':(0<(b.length:Int))=True:=eq_true (by omega)
   simp -implicitDefEqProofs only[↓reduceIte,go_sem,Nat.reduceLT,Nat.reduceEqDiff,Int.reduceLT,reduceCtorEq,eq_self,au,h4']
   refine aC.bC ?_
   simp -implicitDefEqProofs only[↓reduceIte,go_sem,Nat.reduceLT,Nat.reduceEqDiff,eq_self]
   simp[sa,h4,ka]
  ·have h4':(0<(b.length:Int))=False:=eq_false (by omega)
   simp -implicitDefEqProofs only[↓reduceIte,go_sem,Nat.reduceLT,Nat.reduceEqDiff,Int.reduceLT,reduceCtorEq,eq_self,au,h4']
   refine aC.bC ?_
   simp -implicitDefEqProofs only[↓reduceIte,go_sem,Nat.reduceLT,Nat.reduceEqDiff,eq_self]
   simp[sa,h4,ka]
 have hR:sa b n=H5 b n.toNat:=by simp[sa,h1,h2,h3]
 rw[hR]
 obtain⟨m,hm⟩:∃m:Nat,n=((m+1:Nat):Int):=⟨n.toNat-1,by omega⟩
 have hwn:IntKind.i64.wrap (n-1)=(m:Int):=by rw[wrap64_in _ (by omega) (by omega)];omega
 unfold H5
 rw[show n.toNat=m+1 by omega,show m+1-1=m from rfl]
 have hgl:=jH b
 have hglt:=ju b
 simp -implicitDefEqProofs only[↓reduceIte,go_sem,Nat.reduceAdd,Nat.reduceLT,Nat.reduceEqDiff,Nat.reduceBEq,reduceCtorEq,eq_self,h1,h2,h3]
 refine ae.ok (iY b nn (by omega) hb H) ?_
 generalize aN b=g1 at*
 obtain⟨first,k,e⟩:=g1
 simp only at hgl hglt
 by_cases he:e=0
 ·subst he
  have hk0:((0:Int)≤(k:Int))=True:=eq_true (by omega)
  simp -implicitDefEqProofs only[↓reduceIte,go_sem,Nat.reduceAdd,Nat.reduceLT,Nat.reduceEqDiff,Nat.reduceBEq,reduceCtorEq,eq_self,aS,au,hk0]
  refine⟨by omega,?_⟩
  rw[show(aL b).take b.length=aL b from dK _ _ (au _),dV]
  have hgl2:=jH (b.drop k)
  have hglt2:=ju (b.drop k)
  have hb2:∀c∈b.drop k,c<256:=fun c hc=>hb c (List.mem_of_mem_drop hc)
  refine ae.ok (iY (b.drop k) false (by simp;omega) hb2 H) ?_
  rw[List.length_drop]at hgl2
  generalize aN (b.drop k)=g2 at*
  obtain⟨w,j,e⟩:=g2
  simp only at hgl2 hglt2
  by_cases he:e=0
  ·subst he
   by_cases hw:64<w
   ·have hw':(64<(w:Int))=True:=eq_true (by omega)
    simp -implicitDefEqProofs only[↓reduceIte,go_sem,Nat.reduceAdd,Nat.reduceLT,Nat.reduceEqDiff,Nat.reduceBEq,eq_self,hw']
    refine aC.bC ?_
    simp -implicitDefEqProofs only[↓reduceIte,go_sem,Nat.reduceLT,Nat.reduceEqDiff,eq_self]
    simp[hw,ka]
   ·have hw':(64<(w:Int))=False:=eq_false (by omega)
    have hkj:IntKind.i64.wrap ((k:Int)+(j:Int))=((k+j:Nat):Int):=by rw[wrap64_in _ (by omega) (by omega)];rfl
    have hww:IntKind.i64.wrap (w:Int)=(w:Int):=wrap64_in _ (by omega) (by omega)
    obtain⟨p,hp⟩:∃p,p=k+j:=⟨_,rfl⟩
    rw[←hp]at hkj
    simp only[←hp]
    have hp0:((0:Int)≤(p:Int))=True:=eq_true (by omega)
    simp -implicitDefEqProofs only[↓reduceIte,go_sem,Nat.reduceAdd,Nat.reduceLT,Nat.reduceEqDiff,Nat.reduceBEq,reduceCtorEq,eq_self,hw',hkj,hww,hwn,aS,au,hp0]
    refine⟨by omega,?_⟩
    rw[show(aL b).take b.length=aL b from dK _ _ (au _),dV]
    have hb3:∀c∈b.drop p,c<256:=fun c hc=>hb c (List.mem_of_mem_drop hc)
    have hSl:=jJ (b.drop p) m w (by omega)
    have hSn:=c6 (b.drop p) m w
    have hu:=kA (b.drop p) m w false (by simp;omega) hb3 (by omega) (by omega) H
    unfold ir at hu
    generalize bJ (b.drop p) m w=S at*
    by_cases hue:bO (b.drop p) m w=0
    ·rw[hue]at hu⊢
     refine ae.ok hu ?_
     simp -implicitDefEqProofs only[↓reduceIte,go_sem,Nat.reduceAdd,Nat.reduceLT,Nat.reduceEqDiff,Nat.reduceBEq,eq_self]
     refine ae.ok (lZ S false H (by omega) hSl) ?_
     by_cases hwd:db S=w
     ·have hwd':(((db S:Nat):Int)=(w:Int))=True:=eq_true (by omega)
      simp -implicitDefEqProofs only[↓reduceIte,go_sem,Nat.reduceAdd,Nat.reduceLT,Nat.reduceEqDiff,Nat.reduceBEq,eq_self,hww,hwd']
      refine ae.ok (pt first hglt H) ?_
      simp -implicitDefEqProofs only[↓reduceIte,go_sem,Nat.reduceAdd,Nat.reduceLT,Nat.reduceLeDiff,Nat.reduceEqDiff,Nat.reduceBEq,eq_self,fW,hSn]
      refine bD (fun i s H'=>H'=H++[.arr 25 3 i ((ig (eE first) S (i+1)).map aj.enc)]∧s 12= .sl H.length i 0 (i+1)∧s 80= .d (.list false (us S))∧s 81=iA m∧s 82=iA i) m (by omega) (az.refl _ _) ?_ ?_ ?_
      ·refine⟨?_,?_⟩
       ·simp -implicitDefEqProofs only[go_sem]
        rfl
       ·simp -implicitDefEqProofs only[↓reduceIte,go_sem,Nat.reduceLT,Nat.reduceEqDiff,eq_self]
      ·rintro i s H' hi hw2 ⟨rfl,t12,t80,t81,t82⟩
       have hx:=ni S i (by omega)
       have hgd:S.getD i 0=S[i]'(by omega):=by simp[List.getD,show i<S.length by omega]
       have hsx:=hSl _ (List.getElem_mem (show i<S.length by omega))
       have hsu:ig (eE first) S (i+1+1)=ig (eE first) S (i+1)++[ct (IntKind.i64.wrap (qU (eE first) S i+eE (S[i]'(by omega))))]:=by rw[Bv,←hgd];rfl
       have hlst:=Dv (eE first) S (show i<i+1 by omega)
       have hln:=gJ (eE first) S (i+1)
       generalize S[i]'(by omega)=x at hx hsx hsu
       rw[hsu]
       generalize qU (eE first) S i=y at*
       generalize ig (eE first) S (i+1)=L at*
       simp -implicitDefEqProofs only[↓reduceIte,go_sem,Nat.reduceAdd,Nat.reduceLT,Nat.reduceEqDiff,Nat.reduceBEq,eq_self,t80,t81,t82,hi,hx]
       have hii:((i:Int)<(i:Int)+1)=True:=eq_true (by omega)
       refine gA 11 K.mixed (by kernel_rfl) (by kernel_rfl) ?_
       simp -implicitDefEqProofs only[↓reduceIte,go_sem,ai,Nat.reduceAdd,Nat.reduceLT,Nat.reduceLeDiff,Nat.reduceEqDiff,eq_self,t12,hlst,hii,aj.enc,ct]
       refine ae.ok (pt x hsx _) ?_
       have hsn:L.map aj.enc++[[D.v (.int .i64 1),D.v (.int .i64 (IntKind.i64.wrap (y+eE x))),D.v (.string ⟨#[]⟩)]]=(L++[ct (IntKind.i64.wrap (y+eE x))]).map aj.enc:=by simp[aj.enc,ct,dH]
       simp -implicitDefEqProofs only[↓reduceIte,go_sem,Nat.reduceAdd,Nat.reduceLT,Nat.reduceLeDiff,Nat.reduceEqDiff,Nat.reduceBEq,eq_self,List.length_map,hln,hsn]
       refine⟨by omega,by omega,?_⟩
       simp -implicitDefEqProofs only[↓reduceIte,go_sem,Nat.reduceLT,eq_self,t82]
       refine fj.same ⟨?_,?_⟩
       ·simp -implicitDefEqProofs only[go_sem,eq_self]
       ·simp -implicitDefEqProofs only[↓reduceIte,go_sem,Nat.reduceLT,Nat.reduceEqDiff,eq_self,t80,t81,hw2]
      ·rintro s H' ⟨rfl,t12,t80,t81,t82⟩
       simp -implicitDefEqProofs only[↓reduceIte,go_sem,Nat.reduceAdd,Nat.reduceLT,Nat.reduceEqDiff,Nat.reduceBEq,eq_self,t12,t81,t82]
       refine aC.ret ?_
       simp -implicitDefEqProofs only[↓reduceIte,go_sem,Nat.reduceLT,Nat.reduceEqDiff,eq_self]
       rw[show((ig (eE first) S (m+1)).map aj.enc).take (m+1)=(ig (eE first) S (m+1)).map aj.enc from dK _ _ (by rw[List.length_map,gJ])]
       simp[hw,hwd,ka]
     ·have hwd':(((db S:Nat):Int)=(w:Int))=False:=eq_false (by omega)
      simp -implicitDefEqProofs only[↓reduceIte,go_sem,Nat.reduceLT,Nat.reduceEqDiff,eq_self,hww,hwd']
      refine aC.bC ?_
      simp -implicitDefEqProofs only[↓reduceIte,go_sem,Nat.reduceLT,Nat.reduceEqDiff,eq_self]
      simp[hw,hwd,ka]
    ·rw[if_neg hue]at hu
     refine ae.ok hu ?_
     simp -implicitDefEqProofs only[↓reduceIte,go_sem,Nat.reduceAdd,Nat.reduceLT,Nat.reduceEqDiff,Nat.reduceBEq,eq_self,hue]
     refine aC.bC ?_
     simp -implicitDefEqProofs only[↓reduceIte,go_sem,Nat.reduceLT,Nat.reduceEqDiff,eq_self]
     simp[hw,hue,ka]
  ·simp -implicitDefEqProofs only[↓reduceIte,go_sem,Nat.reduceAdd,Nat.reduceLT,Nat.reduceEqDiff,Nat.reduceBEq,eq_self,he]
   refine aC.bC ?_
   simp -implicitDefEqProofs only[↓reduceIte,go_sem,Nat.reduceLT,Nat.reduceEqDiff,eq_self]
   simp[he,ka]
 ·simp -implicitDefEqProofs only[↓reduceIte,go_sem,Nat.reduceAdd,Nat.reduceLT,Nat.reduceEqDiff,Nat.reduceBEq,eq_self,he]
  refine aC.bC ?_
  simp -implicitDefEqProofs only[↓reduceIte,go_sem,Nat.reduceLT,Nat.reduceEqDiff,eq_self]
  simp[he,ka]
end Go.Proofs.YtmbagpfmfiegkaaGreat
namespace Go.Proofs.YtmbagpfmfiegkaaGreatAw
open Go.RowKit
section
variable (P:Program) (hint:Nat→Bool) (n:Nat) (ops:Array Oper) (a p:Nat) (bx:aE) (B:aa)
def gp(o:Oper)(H:aa):Prop:=∃e z k b e',o.op= .alloc e∧o.guard=none∧TI P e=some (z,k,b)∧(0<k∧z.cells.size=k∧z.cells.all Value.oneCell'=true)∧qa hint o.dst=true∧bx= .box e k 1 1 (cc z.cells)∧H[p]?=some (.arr e' k 0 [])
def bI(Q:aT):Nat→List (Option Bool)→List Oper→(Nat→AV)→aa→Prop
 |_,[],l,s,H=>a7 P hint n ops Q l s H
 |_,_::_,[],s,H=>a7 P hint n ops Q [] s H
 |i,b::bs,o::rest,s,H=>if i=a then gp P hint p bx o H∧bI Q (i+1) bs rest (bS n s o.dst (.ptr p 1 0 0)) (H.set p bx)else match b with
  |some false=>df P hint n ops (fun _ _ _=>False) o (fun s' H'=>H'=H∧bI Q (i+1) bs rest s' H') s H
  |none=>df P hint n ops (fun _ _ _=>False) o (fun s' H'=>H'=B∧bI Q (i+1) bs rest s' H) s B
  |some true=>o.guard=none∧(if i<a then aD P hint s H o (fun r H'=>aD P hint s (H.set p bx) o (fun r' H''=>r'=r∧H''=H'.set p bx∧H'[p]?=H[p]?∧Ext B H'∧bI Q (i+1) bs rest (bS n s o.dst r) H') (fun _ _=>False)) (fun _ _=>False)
    else aD P hint s H o (fun r H'=>Ext B H'∧bI Q (i+1) bs rest (bS n s o.dst r) H') (fun _ _=>False))
end
section
variable {P:Program} {hint:Nat→Bool} {n:Nat} {ops:Array Oper} {Q:aT} {a p:Nat} {bx:aE} {B:aa}
def vJ(P:Program)(hint:Nat→Bool)(n:Nat)(ops:Array Oper)(a p:Nat)(bx:aE)(B:aa)(b:Option Bool)(i:Nat)(o:Oper)(s:Nat→AV)(r:AV)(H H':aa):Prop:=
 if i=a then gp P hint p bx o H∧r= .ptr p 1 0 0∧H'=H.set p bx else match b with
 |some false=>cA P hint n ops H s o r H∧H'=H
 |none=>cA P hint n ops B s o r B∧H'=H
 |some true=>cA P hint n ops H s o r H'∧Ext B H'∧(i<a→cA P hint n ops (H.set p bx) s o r (H'.set p bx)∧H'[p]?=H[p]?)
theorem jL{H H':aa}{s:Nat→AV}{o:Oper}{r:AV}(hg:o.guard=none)(h:∀K KP,K r H'→aD P hint s H o K KP):cA P hint n ops H s o r H':=by
 unfold cA
 rw[hg]
 exact h
theorem lz(hdt:∀(i:Nat) (o:Oper),ops[i]?=some o→ko hint o.op=true)(s0:Nat→AV):∀(bs:List (Option Bool)) (k:Nat) (rs0:Nat→AV) (hp0:Nat→aa),k+bs.length≤ops.size→bI P hint n ops a p bx B Q k bs (ops.toList.drop k) (bN n ops s0 rs0 k) (hp0 k)→
  ∃(rs:Nat→AV) (hp:Nat→aa),(∀i,i<k→rs i=rs0 i)∧(∀i,i≤k→hp i=hp0 i)∧
   (∀i o b,k≤i→i<k+bs.length→ops[i]?=some o→bs[i-k]?=some b→vJ P hint n ops a p bx B b i o (bN n ops s0 rs i) (rs i) (hp i) (hp (i+1)))∧
   a7 P hint n ops Q (ops.toList.drop (k+bs.length)) (bN n ops s0 rs (k+bs.length)) (hp (k+bs.length))
 |[],k,rs0,hp0,hk,h=>⟨rs0,hp0,fun _ _=>rfl,fun _ _=>rfl,fun i o b h1 h2=>by simp at h2;omega,by
   have h:a7 P hint n ops Q (ops.toList.drop k) (bN n ops s0 rs0 k) (hp0 k):=by
    cases hd:ops.toList.drop k<;>(rw[hd]at h;exact h)
   exact h⟩
 |b::bs,k,rs0,hp0,hk,h=>by
  simp only[List.length_cons]at hk
  have hlt:k<ops.size:=by omega
  have hget:ops[k]?=some ops[k]:=by simp[hlt]
  have hd:ops.toList.drop k=ops[k]::ops.toList.drop (k+1):=by
   rw[List.drop_eq_getElem_cons (by simpa using hlt)];simp
  rw[hd]at h
  have hdst:bE ops k=(ops[k]).dst:=by simp[bE,hget]
  have step:∃r H',vJ P hint n ops a p bx B b k ops[k] (bN n ops s0 rs0 k) r (hp0 k) H'∧bI P hint n ops a p bx B Q (k+1) bs (ops.toList.drop (k+1)) (bS n (bN n ops s0 rs0 k) (ops[k]).dst r) H':=by
   unfold vJ
   unfold bI at h
   by_cases hka:k=a
   ·rw[if_pos hka]at h
    refine⟨.ptr p 1 0 0,(hp0 k).set p bx,?_,h.2⟩
    rw[if_pos hka]
    exact⟨h.1,rfl,rfl⟩
   ·rw[if_neg hka]at h
    simp only[if_neg hka]
    match b,h with
    |some false,h=>
     obtain⟨r,H',h1,rfl,h3⟩:=jw (hdt k _ hget) h
     exact⟨r,_,⟨h1,rfl⟩,h3⟩
    |none,h=>
     obtain⟨r,H',h1,rfl,h3⟩:=jw (hdt k _ hget) h
     exact⟨r,_,⟨h1,rfl⟩,h3⟩
    |some true,⟨hg,h⟩=>
     by_cases hlta:k<a
     ·rw[if_pos hlta]at h
      obtain⟨r,H',h1,h2⟩:=fz (hdt k _ hget) h
      obtain⟨r',H'',⟨rfl,rfl,h3,h4,h5⟩,h6⟩:=fz (hdt k _ hget) h1
      exact⟨r',H',⟨jL hg h2,h4,fun _=>⟨jL hg h6,h3⟩⟩,h5⟩
     ·rw[if_neg hlta]at h
      obtain⟨r,H',⟨h1,h3⟩,h2⟩:=fz (hdt k _ hget) h
      exact⟨r,H',⟨jL hg h2,h1,fun hh=>absurd hh hlta⟩,h3⟩
  obtain⟨r,H',h1,h4⟩:=step
  let rs1:Nat→AV:=fun i=>if i=k then r else rs0 i
  let hp1:Nat→aa:=fun i=>if i=k+1 then H' else hp0 i
  have e1:rs1 k=r:=if_pos rfl
  have e2:hp1 (k+1)=H':=if_pos rfl
  have hst:∀(rs:Nat→AV) i,i≤k→(∀j,j<i→rs j=rs0 j)→bN n ops s0 rs i=bN n ops s0 rs0 i:=by
   intro rs i
   induction i with
   |zero=>intros;rfl
   |succ i ih=>
    intro hi hr
    simp only[bN,ih (by omega) fun j hj=>hr j (by omega),hr i (by omega)]
  have h5:bI P hint n ops a p bx B Q (k+1) bs (ops.toList.drop (k+1)) (bN n ops s0 rs1 (k+1)) (hp1 (k+1)):=by
   rw[e2]
   simp only[bN,e1,hdst]
   rw[hst rs1 k (Nat.le_refl _) fun j hj=>if_neg (by omega)]
   exact h4
  obtain⟨rs,hp,g1,g2,g3,g4⟩:=lz hdt s0 bs (k+1) rs1 hp1 (by omega) h5
  have f1:∀i,i<k→rs i=rs0 i:=fun i hi=>by rw[g1 i (by omega)];exact if_neg (by omega)
  have f2:∀i,i≤k→hp i=hp0 i:=fun i hi=>by rw[g2 i (by omega)];exact if_neg (by omega)
  have f3:rs k=r:=by rw[g1 k (by omega)];exact e1
  have f4:hp (k+1)=H':=by rw[g2 (k+1) (by omega)];exact e2
  refine⟨rs,hp,f1,f2,fun i o b' hi hi2 ho hb=>?_,by rw[List.length_cons,show k+(bs.length+1)=k+1+bs.length from by omega];exact g4⟩
  rcases Nat.lt_or_ge k i with hki|hki
  ·refine g3 i o b' hki (by simp only[List.length_cons]at hi2;omega) ho ?_
   rwa[show i-k=(i-(k+1))+1 from by omega,List.getElem?_cons_succ]at hb
  ·obtain rfl:i=k:=by omega
   rw[hget]at ho
   cases ho
   rw[Nat.sub_self,List.getElem?_cons_zero]at hb
   cases hb
   rw[f2 i (Nat.le_refl _),f3,f4,hst rs i (Nat.le_refl _) fun j hj=>f1 j hj]
   exact h1
theorem gp.step{o:Oper}{H:aa}{s:Nat→AV}(h:gp P hint p bx o H):cA P hint n ops H s o (.ptr p 1 0 0) (H.set p bx):=by
 obtain⟨e,z,k,b,e',h1,h2,h3,h4,h5,h6,h7⟩:=h
 refine jL h2 fun K KP hk=>?_
 obtain⟨d,op,ty,ps,af,g⟩:=o
 simp only at h1 h2 h5
 subst h1 h2
 rw[uP,h3]
 refine⟨by rw[oL h3];exact h4,?_⟩
 rw[h5]
 exact⟨p,e',h7,by rw[←h6];exact hk⟩
end
def rz(hint:Nat→Bool)(ops:Array Oper)(bs:List (Option Bool))(a:Nat):Bool:=decide (a<bs.length)&&(List.range bs.length).all fun i=>i==a||match bs[i]?,ops[i]? with
 |some (some false),some o=>jF hint false o
 |some none,some o=>jF hint true o
 |some (some true),some _=>(decide (i<a)||cM ops 12 i a)&&(List.range i).all fun c=>c==a||bs[c]?==some (some false)||bs[c]?==some none||cM ops 12 i c
 |_,_=>false
section
variable {P:Program} {hint:Nat→Bool} {n:Nat} {ops:Array Oper} {Q:aT}
theorem nz(bs:List (Option Bool))(a p:Nat)(bx:aE)(B:aa){H0 H:aa}{id:Nat}{s:Nat→AV}(hm:P.follows .mixedOrders=true)(hc:ev hint ops=true)(ht:eo ops bs.length=true)(hx:rz hint ops bs a=true)(hB:Ext B H)(hBp:∀o,B[p]?=some o→o.live=false)
  (h:bI P hint n ops a p bx B Q 0 bs ops.toList s H):cV P hint n H0 (.region id ops true) Q s H:=by
 obtain⟨hms,htl⟩:=fi ht
 refine⟨hm,?_⟩
 obtain⟨rs,w,_,g2,g3,g4⟩:=lz (cH hc).Iy s bs 0 (fun _=> .top) (fun _=>H) (by omega) h
 have g20:w 0=H:=g2 0 (Nat.le_refl _)
 simp only[Nat.zero_add,Nat.sub_zero,Nat.zero_le,true_implies]at g3 g4
 unfold rz at hx
 rw[Bool.and_eq_true,List.all_eq_true]at hx
 obtain⟨ha,hx⟩:=hx
 have ha:a<bs.length:=by simpa using ha
 have hget:∀i,i<bs.length→∃o,ops[i]?=some o:=fun i hi=>⟨ops[i]'(by omega),by simp[show i<ops.size by omega]⟩
 have hbs:∀i (hi:i<bs.length),bs[i]?=some bs[i]:=fun i hi=>List.getElem?_eq_getElem hi
 let T:Nat→Bool:=fun i=>i !=a&&bs[i]?==some (some true)
 have TT:∀i,T i=true→i≠a∧bs[i]?=some (some true):=fun i h=>by
  have h:(i !=a&&bs[i]?==some (some true))=true:=h
  simpa using h
 have TF:∀i,i<bs.length→i≠a→T i=false→bs[i]?=some (some false)∨bs[i]?=some none:=fun i hi hia h=>by
  have h:(i !=a&&bs[i]?==some (some true))=false:=h
  rw[hbs i hi]at h⊢
  rcases hb:bs[i]with _|_|_
  ·exact .inr rfl
  ·exact .inl rfl
  ·rw[hb]at h;simp[hia]at h
 have say:∀i o,i<bs.length→ops[i]?=some o→vJ P hint n ops a p bx B bs[i]! i o (bN n ops s rs i) (rs i) (w i) (w (i+1)):=fun i o hi ho=>g3 i o _ hi ho (by rw[hbs i hi];simp[hi])
 have sayT:∀i o,i<bs.length→ops[i]?=some o→T i=true→cA P hint n ops (w i) (bN n ops s rs i) o (rs i) (w (i+1))∧Ext B (w (i+1))∧(i<a→cA P hint n ops ((w i).set p bx) (bN n ops s rs i) o (rs i) ((w (i+1)).set p bx)∧(w (i+1))[p]?=(w i)[p]?):=by
  intro i o hi ho hT
  obtain⟨h1,h2⟩:=TT i hT
  have:=g3 i o _ hi ho h2
  unfold vJ at this
  rwa[if_neg h1]at this
 have sayF:∀i o,i<bs.length→ops[i]?=some o→bs[i]?=some (some false)→i≠a→cA P hint n ops (w i) (bN n ops s rs i) o (rs i) (w i)∧w (i+1)=w i:=by
  intro i o hi ho h2 h1
  have:=g3 i o _ hi ho h2
  unfold vJ at this
  rwa[if_neg h1]at this
 have sayN:∀i o,i<bs.length→ops[i]?=some o→bs[i]?=some none→i≠a→cA P hint n ops B (bN n ops s rs i) o (rs i) B∧w (i+1)=w i:=by
  intro i o hi ho h2 h1
  have:=g3 i o _ hi ho h2
  unfold vJ at this
  rwa[if_neg h1]at this
 obtain⟨oa,hoa⟩:=hget a ha
 have sayA:gp P hint p bx oa (w a)∧rs a= .ptr p 1 0 0∧w (a+1)=(w a).set p bx:=by
  have:=g3 a oa _ ha hoa (hbs a ha)
  unfold vJ at this
  rwa[if_pos rfl]at this
 have stay:∀i,i<bs.length→i≠a→T i=false→w (i+1)=w i:=by
  intro i hi hia hT
  obtain⟨o,ho⟩:=hget i hi
  rcases TF i hi hia hT with h|h
  ·exact(sayF i o hi ho h hia).2
  ·exact(sayN i o hi ho h hia).2
 have hext:∀j,j≤bs.length→Ext B (w j)∧Ext B ((w j).set p bx):=by
  have key:∀H:aa,Ext B H→Ext B (H.set p bx):=fun H hE i o ho hl=>by
   by_cases e:i=p
   ·subst e;rw[hBp o ho]at hl;cases hl
   ·rw[List.getElem?_set_ne (Ne.symm e)];exact hE i o ho hl
  intro j
  induction j with
  |zero=>intro _;rw[g20];exact⟨hB,key _ hB⟩
  |succ j ih=>
   intro hj
   obtain⟨o,ho⟩:=hget j (by omega)
   by_cases hja:j=a
   ·subst hja
    rw[sayA.2.2]
    exact⟨(ih (by omega)).2,key _ (ih (by omega)).2⟩
   ·cases hT:T j with
    |true=>have:=(sayT j o (by omega) ho hT).2.1;exact⟨this,key _ this⟩
    |false=>rw[stay j (by omega) hja hT];exact ih (by omega)
 let u:Nat→aa:=fun i=>if i≤a then(w i).set p bx else w i
 have u1:∀i,i≤a→u i=(w i).set p bx:=fun i hi=>if_pos hi
 have u2:∀i,a<i→u i=w i:=fun i hi=>if_neg (by omega)
 have ustay:∀i,i<bs.length→T i=false→u (i+1)=u i:=by
  intro i hi hT
  rcases Nat.lt_trichotomy i a with h|h|h
  ·rw[u1 i (by omega),u1 (i+1) (by omega),stay i hi (by omega) hT]
  ·subst h;rw[u1 i (Nat.le_refl _),u2 (i+1) (by omega),sayA.2.2]
  ·rw[u2 i h,u2 (i+1) (by omega),stay i hi (by omega) hT]
 have chain:∀(f:Nat→aa) (N:Nat),(∀i,i<N→T i=false→f (i+1)=f i)→∀q i,q≤N→i≤N→(∀c,c<N→T c=true→(c<q↔c<i))→f q=f i:=by
  intro f N hf
  have up:∀d q,q+d≤N→(∀c,c<N→T c=true→(c<q↔c<q+d))→f (q+d)=f q:=by
   intro d
   induction d with
   |zero=>intros;rfl
   |succ d ihd=>
    intro q hq hcc
    have h1:T (q+d)=false:=by
     cases h:T (q+d)with
     |false=>rfl
     |true=>have:=(hcc (q+d) (by omega) h).2 (by omega);omega
    rw[←Nat.add_assoc,hf (q+d) (by omega) h1]
    exact ihd q (by omega) fun c hcm hct=>⟨fun h=>by omega,fun h=>(hcc c hcm hct).2 (by omega)⟩
  intro q i hq hi hcc
  rcases Nat.le_total q i with h|h
  ·obtain⟨d,rfl⟩:=Nat.exists_eq_add_of_le h
   exact(up d q hi hcc).symm
  ·obtain⟨d,rfl⟩:=Nat.exists_eq_add_of_le h
   exact up d i hq fun c hcm hct=>(hcc c hcm hct).symm
 have hsu:=chain u bs.length ustay
 have hsw:=chain w a fun i hi hT=>stay i (by omega) (by omega) hT
 have hole:∀j,j≤a→(w j)[p]?=(w 0)[p]?:=by
  intro j
  induction j with
  |zero=>intro _;rfl
  |succ j ih=>
   intro hj
   obtain⟨o,ho⟩:=hget j (by omega)
   cases hT:T j with
   |true=>rw[((sayT j o (by omega) ho hT).2.2 (by omega)).2];exact ih (by omega)
   |false=>rw[stay j (by omega) (by omega) hT];exact ih (by omega)
 have chk:∀i o,i<bs.length→ops[i]?=some o→T i=true→(i<a∨cM ops 12 i a=true)∧∀c,c<i→T c=true→cM ops 12 i c=true:=by
  intro i o hi ho hT
  obtain⟨h1,h2⟩:=TT i hT
  have:=hx i (List.mem_range.2 hi)
  rw[h2,ho]at this
  simp only[Bool.or_eq_true,beq_iff_eq,h1,false_or,Bool.and_eq_true,decide_eq_true_eq,List.all_eq_true]at this
  refine⟨this.1,fun c hci hct=>?_⟩
  obtain⟨h3,h4⟩:=TT c hct
  have:=this.2 c (List.mem_range.2 hci)
  rw[h4]at this
  simpa[h3]using this
 refine p8 (cH hc) bs.length hms htl s rs (fun L G=>∃q,q≤bs.length∧(∀c,c<bs.length→T c=true→(L c=true↔c<q))∧((L a=true∧G=u q)∨(L a=false∧q≤a∧G=w q))) ?_ ?_ ?_ ops.size (Array.replicate ops.size false) s H (by simp) ?_ ?_ ?_ ?_ ?_ ⟨0,Nat.zero_le _,fun c hcm hct=>?_,.inr ⟨?_,Nat.zero_le _,g20.symm⟩⟩
 ·rintro L L' G hL ⟨q,h1,h2,h3⟩
  exact⟨q,h1,fun c hcm hct=>by rw[←hL c hcm];exact h2 c hcm hct,by rw[←hL a ha];exact h3⟩
 ·rintro L G i o ⟨q,hqm,hql,hG⟩ him hgo hun hcl hbi
  have hnew:∀c,c≠i→(if c=i then true else L c)=L c:=fun c hc=>if_neg hc
  by_cases hia:i=a
  ·subst hia
   rcases hG with⟨hL,_⟩|⟨_,hqa,rfl⟩
   ·rw[hL]at hun;cases hun
   have e:o=oa:=Option.some.inj (hgo.symm.trans hoa)
   subst e
   obtain⟨e,z,k,b,e',k1,k2,k3,k4,k5,k6,k7⟩:=sayA.1
   have hA:gp P hint p bx o (w q):=⟨e,z,k,b,e',k1,k2,k3,k4,k5,k6,by rw[hole q hqa,←hole i (Nat.le_refl _)];exact k7⟩
   refine⟨_,by rw[sayA.2.1];exact hA.step,q,hqm,fun c hcm hct=>?_,.inl ⟨by simp,(u1 q hqa).symm⟩⟩
   show(if c=i then true else L c)=true↔c<q
   rw[hnew c (TT c hct).1]
   exact hql c hcm hct
  ·have hLa:(if a=i then true else L a)=L a:=if_neg (Ne.symm hia)
   cases hT:T i with
   |false=>
    have hS:cA P hint n ops G (bN n ops s rs i) o (rs i) G:=by
     have hfl:=hx i (List.mem_range.2 him)
     have hEx:Ext B G:=by
      rcases hG with⟨_,rfl⟩|⟨_,_,rfl⟩
      ·rcases Nat.lt_or_ge a q with h|h
       ·rw[u2 q h];exact(hext q hqm).1
       ·rw[u1 q h];exact(hext q hqm).2
      ·exact(hext q hqm).1
     rcases TF i him hia hT with hk|hk
     ·rw[hk,hgo]at hfl
      simp only[Bool.or_eq_true,beq_iff_eq,hia,false_or]at hfl
      exact eu hfl (fun hf=>by cases hf) (sayF i o him hgo hk hia).1
     ·rw[hk,hgo]at hfl
      simp only[Bool.or_eq_true,beq_iff_eq,hia,false_or]at hfl
      exact eu (first:=true) hfl (fun _=>hEx) (sayN i o him hgo hk hia).1
    refine⟨G,hS,q,hqm,fun c hcm hct=>?_,by simp only[hLa];exact hG⟩
    show(if c=i then true else L c)=true↔c<q
    rw[hnew c (by intro e;rw[e,hT]at hct;cases hct)]
    exact hql c hcm hct
   |true=>
    obtain⟨hra,hrc⟩:=chk i o him hgo hT
    have breach:∀c o',ops[c]?=some o'→(∀j,a9 o' j=true→L j=true)→∀i',cM ops 12 c i'=true→L i'=true:=fun c o' hoc hb i' hr=>fK hcl 12 c o' hoc hb i' hr
    have hbef:∀c,c<bs.length→T c=true→(L c=true↔c<i):=by
     intro c hcm hct
     refine⟨fun hl=>?_,fun hlt=>breach i o hgo hbi c (hrc c hlt hct)⟩
     rcases Nat.lt_trichotomy c i with h|h|h
     ·exact h
     ·subst h;rw[hun]at hl;cases hl
     ·exfalso
      obtain⟨oc,hgc⟩:=hget c hcm
      have:=breach c oc hgc (fun j hj=>hcl c oc j hgc hl hj) i ((chk c oc hcm hgc hct).2 i h hT)
      rw[hun]at this
      cases this
    have heq:∀c,c<bs.length→T c=true→(c<q↔c<i):=fun c hcm hct=>(hql c hcm hct).symm.trans (hbef c hcm hct)
    have hq':∀c,c<bs.length→T c=true→((if c=i then true else L c)=true↔c<i+1):=fun c hcm hct=>by
     by_cases e:c=i
     ·subst e;simp
     ·rw[if_neg e]
      exact(hbef c hcm hct).trans ⟨fun h=>by omega,fun h=>by omega⟩
    obtain⟨s1,_,s3⟩:=sayT i o him hgo hT
    rcases hG with⟨hL,rfl⟩|⟨hL,hqa,rfl⟩
    ·have hu:=hsu q i hqm (by omega) heq
     rw[hu]
     rcases Nat.lt_or_ge i a with h|h
     ·refine⟨u (i+1),by rw[u1 i (by omega),u1 (i+1) (by omega)];exact(s3 h).1,i+1,by omega,hq',.inl ⟨by show(if a=i then true else L a)=true;rw[hLa];exact hL,rfl⟩⟩
     ·refine⟨u (i+1),by rw[u2 i (by omega),u2 (i+1) (by omega)];exact s1,i+1,by omega,hq',.inl ⟨by show(if a=i then true else L a)=true;rw[hLa];exact hL,rfl⟩⟩
    ·have hilt:i<a:=by
      rcases hra with h|h
      ·exact h
      ·have:=breach i o hgo hbi a h
       rw[hL]at this;cases this
     have hw:=hsw q i hqa (by omega) fun c hcm hct=>heq c (by omega) hct
     rw[hw]
     exact⟨_,s1,i+1,by omega,hq',.inr ⟨by show(if a=i then true else L a)=false;rw[hLa];exact hL,by omega,rfl⟩⟩
 ·rintro L G hall ⟨q,hqm,hql,hG⟩
  rcases hG with⟨_,rfl⟩|⟨hL,_⟩
  ·rw[hsu q bs.length hqm (Nat.le_refl _) fun c hcm hct=>⟨fun _=>hcm,fun _=>(hql c hcm hct).1 (hall c hcm)⟩,u2 _ ha]
   exact g4
  ·rw[hall a ha]at hL;cases hL
 ·exact Nat.le_trans List.countP_le_length (by simp)
 ·intro t j hj
  have hjl:=eF hj
  rw[if_neg (by simp[Array.getD,hjl])]
 ·intro t _;rfl
 ·intro j oj i hoj hl
  have hjl:=(Array.getElem?_eq_some_iff.1 hoj).1
  simp[Array.getD,hjl]at hl
 ·intro i hi hi2
  simp[Array.getD,hi2]
 ·have:c<ops.size:=by omega
  simp[Array.getD,this]
 ·simp[Array.getD,show a<ops.size by omega]
end
section
variable (P:Program) (hint:Nat→Bool) (n:Nat) (ops:Array Oper) (a p:Nat) (bx:aE) (B:aa) (Q:aT) (i:Nat) (bs:List (Option Bool)) (rest:List Oper) (s:Nat→AV) (H:aa)
def so(d:Option Tmp)(H0:aa):AV→aa→Prop:=fun r H'=>H'=B∧bI P hint n ops a p bx B Q (i+1) bs rest (bS n s d r) H0
def tz(d:Option Tmp)(H0:aa):AV→aa→Prop:=fun r H'=>H'=H0∧bI P hint n ops a p bx B Q (i+1) bs rest (bS n s d r) H'
def nP(d:Option Tmp)(H0:aa)(r:AV)(H':aa):AV→aa→Prop:=fun r' H''=>r'=r∧H''=H'.set p bx∧H'[p]?=H0[p]?∧Ext B H'∧bI P hint n ops a p bx B Q (i+1) bs rest (bS n s d r) H'
def nj(o:Oper)(H0:aa):AV→aa→Prop:=fun r H'=>if i<a then aD P hint s (H0.set p bx) o (nP P hint n ops a p bx B Q i bs rest s o.dst H0 r H') CO else Ext B H'∧bI P hint n ops a p bx B Q (i+1) bs rest (bS n s o.dst r) H'
theorem CE(d:Option Tmp)(H0:aa)(r:AV):so P hint n ops a p bx B Q i bs rest s d H0 r H=(H=B∧bI P hint n ops a p bx B Q (i+1) bs rest (bS n s d r) H0):=rfl
theorem AT(d:Option Tmp)(H0:aa)(r:AV):tz P hint n ops a p bx B Q i bs rest s d H0 r H=(H=H0∧bI P hint n ops a p bx B Q (i+1) bs rest (bS n s d r) H):=rfl
theorem Cr(d:Option Tmp)(H0:aa)(r:AV)(H':aa)(r':AV):nP P hint n ops a p bx B Q i bs rest s d H0 r H' r' H=(r'=r∧H=H'.set p bx∧H'[p]?=H0[p]?∧Ext B H'∧bI P hint n ops a p bx B Q (i+1) bs rest (bS n s d r) H'):=rfl
theorem A1(d:Option Tmp)(op:Op)(ty:TypeId)(ps:String)(af:Array Edge)(g:Option (Nat×Bool))(H0:aa)(r:AV):nj P hint n ops a p bx B Q i bs rest s ⟨d,op,ty,ps,af,g⟩ H0 r H=(if i<a then aD P hint s (H0.set p bx) ⟨d,op,ty,ps,af,g⟩ (nP P hint n ops a p bx B Q i bs rest s d H0 r H) CO else Ext B H∧bI P hint n ops a p bx B Q (i+1) bs rest (bS n s d r) H):=rfl
theorem u0(l:List Oper):bI P hint n ops a p bx B Q i [] l s H=a7 P hint n ops Q l s H:=by cases l<;>rfl
theorem yu(l:List Oper):bI P hint n ops a p bx B Q i bs l.toArray.toList s H=bI P hint n ops a p bx B Q i bs l s H:=rfl
theorem Bf(d:Option Tmp)(op:Op)(ty:TypeId)(ps:String)(af:Array Edge):bI P hint n ops a p bx B Q i (some false::bs) (⟨d,op,ty,ps,af,none⟩::rest) s H=if i=a then gp P hint p bx ⟨d,op,ty,ps,af,none⟩ H∧bI P hint n ops a p bx B Q (i+1) bs rest (bS n s d (.ptr p 1 0 0)) (H.set p bx)else aD P hint s H ⟨d,op,ty,ps,af,none⟩ (tz P hint n ops a p bx B Q i bs rest s d H) CO:=by
 simp only[bI,df]<;>rfl
theorem CB(d:Option Tmp)(op:Op)(ty:TypeId)(ps:String)(af:Array Edge):bI P hint n ops a p bx B Q i (none::bs) (⟨d,op,ty,ps,af,none⟩::rest) s H=if i=a then gp P hint p bx ⟨d,op,ty,ps,af,none⟩ H∧bI P hint n ops a p bx B Q (i+1) bs rest (bS n s d (.ptr p 1 0 0)) (H.set p bx)else aD P hint s B ⟨d,op,ty,ps,af,none⟩ (so P hint n ops a p bx B Q i bs rest s d H) CO:=by
 simp only[bI,df]<;>rfl
theorem AH(d:Option Tmp)(op:Op)(ty:TypeId)(ps:String)(af:Array Edge):bI P hint n ops a p bx B Q i (some true::bs) (⟨d,op,ty,ps,af,none⟩::rest) s H=if i=a then gp P hint p bx ⟨d,op,ty,ps,af,none⟩ H∧bI P hint n ops a p bx B Q (i+1) bs rest (bS n s d (.ptr p 1 0 0)) (H.set p bx)else aD P hint s H ⟨d,op,ty,ps,af,none⟩ (nj P hint n ops a p bx B Q i bs rest s ⟨d,op,ty,ps,af,none⟩ H) CO:=by
 simp only[bI,true_and]
 by_cases h:i<a
 ·have e:nj P hint n ops a p bx B Q i bs rest s ⟨d,op,ty,ps,af,none⟩ H=fun r H'=>aD P hint s (H.set p bx) ⟨d,op,ty,ps,af,none⟩ (nP P hint n ops a p bx B Q i bs rest s d H r H') CO:=by
   funext r H';exact if_pos h
  rw[e,if_pos h];rfl
 ·have e:nj P hint n ops a p bx B Q i bs rest s ⟨d,op,ty,ps,af,none⟩ H=fun r H'=>Ext B H'∧bI P hint n ops a p bx B Q (i+1) bs rest (bS n s d r) H':=by
   funext r H';exact if_neg h
  rw[e,if_neg h];rfl
end
section
variable {P:Program} {hint:Nat→Bool} {n:Nat} {ops:Array Oper} {a p:Nat} {bx:aE} {B:aa} {Q:aT} {i:Nat} {bs:List (Option Bool)} {rest:List Oper} {s:Nat→AV}
@[congr] theorem Jt {l:List Oper} {H H':aa} (h:nf H=H'):bI P hint n ops a p bx B Q i bs l s H=bI P hint n ops a p bx B Q i bs l s H':=by rw[←h];rfl
@[congr] theorem H6 {d:Option Tmp} {H0 H H':aa} {r r':AV} (g:nf r=r') (h:nf H=H'):so P hint n ops a p bx B Q i bs rest s d H0 r H=so P hint n ops a p bx B Q i bs rest s d H0 r' H':=by rw[←g,←h];rfl
@[congr] theorem HU {d:Option Tmp} {H0 H H':aa} {r r':AV} (g:nf r=r') (h:nf H=H'):tz P hint n ops a p bx B Q i bs rest s d H0 r H=tz P hint n ops a p bx B Q i bs rest s d H0 r' H':=by rw[←g,←h];rfl
@[congr] theorem HW {d:Option Tmp} {H0 H1 H H':aa} {r0 r r':AV} (g:nf r=r') (h:nf H=H'):nP P hint n ops a p bx B Q i bs rest s d H0 r0 H1 r H=nP P hint n ops a p bx B Q i bs rest s d H0 r0 H1 r' H':=by rw[←g,←h];rfl
@[congr] theorem HY {o:Oper} {H0 H H':aa} {r r':AV} (g:nf r=r') (h:nf H=H'):nj P hint n ops a p bx B Q i bs rest s o H0 r H=nj P hint n ops a p bx B Q i bs rest s o H0 r' H':=by rw[←g,←h];rfl
end
attribute [go_sem] CE AT Cr A1 u0 yu Bf CB AH
end Go.Proofs.YtmbagpfmfiegkaaGreatAw
namespace Go.Proofs.YtmbagpfmfiegkaaGreat
open Go.Proofs.YtmbagpfmfiegkaaGreatAw Go.RowKit
noncomputable def fU(b:List Nat)(n k w:Int):List aj×Int:=
 if w=1 then dy b n k else if w=2 then fT b n k else if w=3 then fE b n k
 else if w=4∧k=1 then((sa b n).1.getD [],(sa b n).2)else([],1)
noncomputable def dz(s:Sg):List aj×Int:=
 if(fU s.body ((s.aP.rows:Int)-(aJ s.aB:Int)) s.kind s.aR).2≠0∨s.aB=[]then fU s.body ((s.aP.rows:Int)-(aJ s.aB:Int)) s.kind s.aR
 else gL s.aB (fU s.body ((s.aP.rows:Int)-(aJ s.aB:Int)) s.kind s.aR).1
theorem mi(k:Int)(H:aa)(o1 o2:aE):ah Tryz.prog 46 [iA k] (H++[o1,o2]) (.ok (.mp (H.length+3))) (H++[o1,o2,kB k,.mp .i64 (gS (H.length+2) k)]):=by
 have h:=eO k (H++[o1,o2])
 rw[List.length_append,List.append_assoc]at h
 exact h
theorem Hi(H:aa)(o:aE)(T:aa):Ext (H++[o]) (H++o::T)=True:=eq_true (by have:=Ext.app (H++[o]) T;rwa[List.append_assoc]at this)
theorem yw(s:Sg)(f1 f2:FuncId)(c1 c2:List AV)(L:List aj)(e:Int)(H:aa)(hr:s.aP.rows≤1000000)(hn:s.aB.length≤1000000)(hL:L.length≤1000000000)
  (hg:fh s.aR (gS (H.length+2) s.kind)=some (.agg [.fn f1 c1,.fn f2 c2]))
  (hd:∀G:aa,G[H.length+2]?=some (kB s.kind)→ah Tryz.prog f2 ([.d (.list false (aL s.body)),iA ((s.aP.rows:Int)-(aJ s.aB:Int))]++c2) G (.ok (.bu [.d (.list false (L.map aj.enc)),iA e])) G):
  ah Tryz.prog 21 [.agg s.cs] H (.ok (if e≠0∨s.aB=[]then .bu [.d (.list false (L.map aj.enc)),iA e]else .bu [.d (.list false ((gL s.aB L).1.map aj.enc)),iA (gL s.aB L).2])) H:=by
 obtain⟨k,w,⟨zr,zn,zmn,zmx⟩,ns,b⟩:=s
 simp only at hg hd hr hn⊢
 have hcn:=fun G=>ql ns false (by omega) G
 have hcl:=fC ns
 have hwr:IntKind.i64.wrap ((zr:Int)-(aJ ns:Int))=(zr:Int)-(aJ ns:Int):=wrap64_in _ (by omega) (by omega)
 unfold Sg.cs
 have hc:=mi k H
 have hE:=Hi H
 have hd1:=hd
 refine ah.ao (hint:=(fun t=>t==4||t==1000001)) Tryz.func21 (by kernel_rfl) rfl [2,3] (by kernel_rfl) (by decide) (by simp[Tryz.ntmps21]) ?_
 rw[Tryz.ntmps21]
 simp -implicitDefEqProofs only[↓reduceIte,go_sem,Nat.reduceAdd,Nat.reduceLT,Nat.reduceBEq,eq_self]
 have hti:TI Tryz.prog 97=some ((.agg #[.nilFunc,.nilFunc]:Value),2,16):=by kernel_rfl
 refine⟨_,_,az.fg _ _ 2 97 2 (by decide) (by simp -implicitDefEqProofs only[↓reduceIte,go_sem,Nat.reduceLT,Nat.reduceEqDiff,eq_self]) _,?_⟩
 simp -implicitDefEqProofs only[go_sem]
 refine nz [none,none,some true,none,none,some true,some false,some false,some false,some false,some true] 9 (H.length+1) (.box 97 2 1 1 [.d (.v .nilFunc),.d (.v .nilFunc)]) (H++[.box 30 12 0 1 [iA k,iA w,iA zr,iA zn,iA zmn.kind,iA zmn.i,sA zmn.s,iA zmx.kind,iA zmx.i,sA zmx.s,.d (.list false (bZ ns)),.d (.list false (aL b))]]) K.mixed (by kernel_rfl) (by kernel_rfl) (by kernel_rfl) ?_ ?_ ?_
 ·rw[hE];trivial
 ·intro o ho
  simp at ho
 simp -implicitDefEqProofs only[↓reduceIte,go_sem,ai,Nat.reduceAdd,Nat.reduceLT,Nat.reduceLeDiff,Nat.reduceEqDiff,reduceCtorEq,eq_self]
 refine ae.ok (hc _ _) ?_
 simp -implicitDefEqProofs only[↓reduceIte,go_sem,Nat.reduceAdd,Nat.reduceLT,eq_self]
 refine ae.ok (hc _ _) ?_
 simp -implicitDefEqProofs only[↓reduceIte,go_sem,ai,aq,Nat.reduceAdd,Nat.reduceLT,Nat.reduceLeDiff,Nat.reduceEqDiff,Nat.reduceBEq,eq_self,hE,hg,Option.getD_some,Option.isSome_some]
 refine⟨⟨_,_,_,_,97,rfl,rfl,hti,⟨by decide,by kernel_rfl,by kernel_rfl⟩,rfl,rfl,by simp -implicitDefEqProofs only[go_sem,eq_self]⟩,?_⟩
 refine dC [none,none,none,none,none,none,none,none,none,some true,some false,some true,some false,some false,some false,some false] 9 _ K.mixed (by kernel_rfl) (by kernel_rfl) (by kernel_rfl) (Ext.refl _) ?_
 simp -implicitDefEqProofs only[↓reduceIte,go_sem,ai,Nat.reduceAdd,Nat.reduceLT,Nat.reduceLeDiff,Nat.reduceEqDiff,eq_self]
 refine ae.ok (hcn _) ?_
 simp -implicitDefEqProofs only[↓reduceIte,go_sem,Nat.reduceLT,Nat.reduceEqDiff,eq_self,hwr]
 refine ae.ok (hd _ (by simp -implicitDefEqProofs only[go_sem,eq_self])) ?_
 by_cases he:e=0
 ·by_cases h0:ns=[]
  ·rw[if_pos (.inr h0)]
   subst h0
   simp -implicitDefEqProofs only[↓reduceIte,go_sem,ai,Nat.reduceAdd,Nat.reduceLT,Nat.reduceLeDiff,Nat.reduceEqDiff,Nat.reduceBEq,reduceCtorEq,eq_self,he,di]
   refine aC.ret ?_
   simp -implicitDefEqProofs only[↓reduceIte,go_sem,Nat.reduceLT,Nat.reduceEqDiff,eq_self,he]
  ·rw[if_neg (fun h=>h.elim (fun h=>h he) h0)]
   have hj:=fun H=>An ns L hn hL H
   have hnl:((ns.length:Int)=0)=False:=eq_false (by have:=List.length_pos_iff.2 h0;omega)
   simp -implicitDefEqProofs only[↓reduceIte,go_sem,ai,Nat.reduceAdd,Nat.reduceLT,Nat.reduceLeDiff,Nat.reduceEqDiff,Nat.reduceBEq,reduceCtorEq,eq_self,he,di,hnl]
   refine ae.ok (hj _) ?_
   simp -implicitDefEqProofs only[↓reduceIte,go_sem,Nat.reduceLT,Nat.reduceEqDiff,eq_self]
   refine aC.ret ?_
   simp -implicitDefEqProofs only[↓reduceIte,go_sem,Nat.reduceLT,Nat.reduceEqDiff,eq_self]
 ·rw[if_pos (.inl he)]
  simp -implicitDefEqProofs only[↓reduceIte,go_sem,Nat.reduceAdd,Nat.reduceLT,Nat.reduceEqDiff,Nat.reduceBEq,eq_self,he]
  refine aC.ret ?_
  simp -implicitDefEqProofs only[↓reduceIte,go_sem,Nat.reduceLT,Nat.reduceEqDiff,eq_self]
theorem y9(s:Sg)(H:aa)(hg:fh s.aR (gS (H.length+2) s.kind)=none):
  ah Tryz.prog 21 [.agg s.cs] H (.ok (.bu [.d (.v (.slice none 0 0)),iA 1])) H:=by
 obtain⟨k,w,⟨zr,zn,zmn,zmx⟩,ns,b⟩:=s
 simp only at hg
 unfold Sg.cs
 have hc:=mi k H
 have hE:=Hi H
 refine ah.ao (hint:=(fun t=>t==4||t==1000001)) Tryz.func21 (by kernel_rfl) rfl [2,3] (by kernel_rfl) (by decide) (by simp[Tryz.ntmps21]) ?_
 rw[Tryz.ntmps21]
 simp -implicitDefEqProofs only[↓reduceIte,go_sem,Nat.reduceAdd,Nat.reduceLT,Nat.reduceBEq,eq_self]
 have hti:TI Tryz.prog 97=some ((.agg #[.nilFunc,.nilFunc]:Value),2,16):=by kernel_rfl
 refine⟨_,_,az.fg _ _ 2 97 2 (by decide) (by simp -implicitDefEqProofs only[↓reduceIte,go_sem,Nat.reduceLT,Nat.reduceEqDiff,eq_self]) _,?_⟩
 simp -implicitDefEqProofs only[go_sem]
 refine nz [none,none,some true,none,none,some true,some false,some false,some false,some false,some true] 9 (H.length+1) (.box 97 2 1 1 [.d (.v .nilFunc),.d (.v .nilFunc)]) (H++[.box 30 12 0 1 [iA k,iA w,iA zr,iA zn,iA zmn.kind,iA zmn.i,sA zmn.s,iA zmx.kind,iA zmx.i,sA zmx.s,.d (.list false (bZ ns)),.d (.list false (aL b))]]) K.mixed (by kernel_rfl) (by kernel_rfl) (by kernel_rfl) ?_ ?_ ?_
 ·rw[hE];trivial
 ·intro o ho
  simp at ho
 simp -implicitDefEqProofs only[↓reduceIte,go_sem,ai,Nat.reduceAdd,Nat.reduceLT,Nat.reduceLeDiff,Nat.reduceEqDiff,reduceCtorEq,eq_self]
 refine ae.ok (hc _ _) ?_
 simp -implicitDefEqProofs only[↓reduceIte,go_sem,Nat.reduceAdd,Nat.reduceLT,eq_self]
 refine ae.ok (hc _ _) ?_
 simp -implicitDefEqProofs only[↓reduceIte,go_sem,ai,aq,Nat.reduceAdd,Nat.reduceLT,Nat.reduceLeDiff,Nat.reduceEqDiff,Nat.reduceBEq,eq_self,hE,hg,Option.getD_none,Option.isSome_none]
 refine⟨⟨_,_,_,_,97,rfl,rfl,hti,⟨by decide,by kernel_rfl,by kernel_rfl⟩,rfl,rfl,by simp -implicitDefEqProofs only[go_sem,eq_self]⟩,?_⟩
 refine aC.ret ?_
 simp -implicitDefEqProofs only[↓reduceIte,go_sem,Nat.reduceLT,Nat.reduceEqDiff,eq_self]
theorem BE(s:Sg)(hr:s.aP.rows≤1000000)(hn:s.aB.length≤1000000)(hb:∀c∈s.body,c<256)(hl:s.body.length≤140737488351232)(H:aa)(hL:(fU s.body ((s.aP.rows:Int)-(aJ s.aB:Int)) s.kind s.aR).1.length≤1000000000):
  ah Tryz.prog 21 [.agg s.cs] H (.ok (.bu [.d (.list false ((dz s).1.map aj.enc)),iA (dz s).2])) H:=by
 have hg:=pN (H.length+2) s.kind s.aR
 unfold sD at hg
 unfold dz
 have key:∀(f1 f2:FuncId) (c1 c2:List AV),fh s.aR (gS (H.length+2) s.kind)=some (.agg [.fn f1 c1,.fn f2 c2])→
   (∀G:aa,G[H.length+2]?=some (kB s.kind)→ah Tryz.prog f2 ([.d (.list false (aL s.body)),iA ((s.aP.rows:Int)-(aJ s.aB:Int))]++c2) G (.ok (.bu [.d (.list false ((fU s.body ((s.aP.rows:Int)-(aJ s.aB:Int)) s.kind s.aR).1.map aj.enc)),iA (fU s.body ((s.aP.rows:Int)-(aJ s.aB:Int)) s.kind s.aR).2])) G)→
   ah Tryz.prog 21 [.agg s.cs] H (.ok (.bu [.d (.list false ((if(fU s.body ((s.aP.rows:Int)-(aJ s.aB:Int)) s.kind s.aR).2≠0∨s.aB=[]then fU s.body ((s.aP.rows:Int)-(aJ s.aB:Int)) s.kind s.aR
    else gL s.aB (fU s.body ((s.aP.rows:Int)-(aJ s.aB:Int)) s.kind s.aR).1).1.map aj.enc)),iA (if(fU s.body ((s.aP.rows:Int)-(aJ s.aB:Int)) s.kind s.aR).2≠0∨s.aB=[]then fU s.body ((s.aP.rows:Int)-(aJ s.aB:Int)) s.kind s.aR
    else gL s.aB (fU s.body ((s.aP.rows:Int)-(aJ s.aB:Int)) s.kind s.aR).1).2])) H:=by
  intro f1 f2 c1 c2 h1 h2
  have h:=yw s f1 f2 c1 c2 _ _ H hr hn hL h1 h2
  by_cases c:(fU s.body ((s.aP.rows:Int)-(aJ s.aB:Int)) s.kind s.aR).2≠0∨s.aB=[]
  ·rw[if_pos c]at h;rw[if_pos c];exact h
  ·rw[if_neg c]at h;rw[if_neg c];exact h
 by_cases h1:s.aR=1
 ·rw[if_pos h1]at hg
  refine key _ _ _ _ hg fun G hG=>?_
  rw[show fU s.body ((s.aP.rows:Int)-(aJ s.aB:Int)) s.kind s.aR=_ from if_pos h1]
  exact rf _ _ _ hl hb G _ hG
 by_cases h2:s.aR=2
 ·rw[if_neg h1,if_pos h2]at hg
  refine key _ _ _ _ hg fun G hG=>?_
  rw[show fU s.body ((s.aP.rows:Int)-(aJ s.aB:Int)) s.kind s.aR=_ from(if_neg h1).trans (if_pos h2)]
  exact vh _ _ _ hl hb G _ hG
 by_cases h3:s.aR=3
 ·rw[if_neg h1,if_neg h2,if_pos h3]at hg
  refine key _ _ _ _ hg fun G hG=>?_
  rw[show fU s.body ((s.aP.rows:Int)-(aJ s.aB:Int)) s.kind s.aR=_ from(if_neg h1).trans ((if_neg h2).trans (if_pos h3))]
  exact tb _ _ _ hl hb G _ hG
 by_cases h4:s.aR=4∧s.kind=1
 ·rw[if_neg h1,if_neg h2,if_neg h3,if_pos h4]at hg
  refine key _ _ _ _ hg fun G hG=>?_
  rw[show fU s.body ((s.aP.rows:Int)-(aJ s.aB:Int)) s.kind s.aR=_ from(if_neg h1).trans ((if_neg h2).trans ((if_neg h3).trans (if_pos h4)))]
  have h:=Fy s.body ((s.aP.rows:Int)-(aJ s.aB:Int)) false hl hb G
  simp only[List.append_nil]
  generalize sa s.body ((s.aP.rows:Int)-(aJ s.aB:Int))=q at*
  obtain⟨o,e⟩:=q
  cases o with
  |none=>exact ah.ck h (.cons .nil (.cons (.refl _) .nil))
  |some l=>exact h
 ·rw[if_neg h1,if_neg h2,if_neg h3,if_neg h4]at hg
  have h:=y9 s H hg
  have e:fU s.body ((s.aP.rows:Int)-(aJ s.aB:Int)) s.kind s.aR=([],1):=(if_neg h1).trans ((if_neg h2).trans ((if_neg h3).trans (if_neg h4)))
  rw[e,if_pos (.inl (by decide))]
  exact ah.ck h (.cons .nil (.cons (.refl _) .nil))
theorem v7:∀(k acc n:Nat) (r:List Nat),k≤9→acc+n* 128^(9-k)<18446744073709551616→(9≤k∨n≠0)→dd (k+1) acc (bq n++r)=(.ok (acc+n* 128^(9-k)),r):=by
 intro k
 induction k with
 |zero=>
  intro acc n r hk h hn
  have:n≤1:=by
   rcases Nat.lt_or_ge n 2 with h'|h'
   ·omega
   ·have:2* 128^9≤n* 128^9:=Nat.mul_le_mul_right _ h'
    simp only[Nat.sub_zero]at h
    omega
  rw[cr (by omega)]
  have hb:¬((0=0∧1<n)∨(0<9∧n=0)):=by omega
  rw[List.singleton_append]
  unfold dd
  rw[if_neg hb,if_pos (show n<128 by omega),Nat.mod_eq_of_lt (show n<128 by omega)]
 |succ k ih=>
  intro acc n r hk h hn
  by_cases hlt:n<128
  ·rw[cr hlt]
   have hb:¬((k+1=0∧1<n)∨(k+1<9∧n=0)):=by omega
   rw[List.singleton_append]
   unfold dd
   rw[if_neg hb,if_pos hlt,Nat.mod_eq_of_lt hlt]
  ·rw[jf hlt]
   have hb:¬((k+1=0∧1<n%128+128)∨(k+1<9∧n%128+128=0)):=by omega
   have hc:(n%128+128)%128=n%128:=by omega
   rw[List.cons_append]
   unfold dd
   rw[if_neg hb,if_neg (show ¬n%128+128<128 by omega),hc]
   have e:9-k=(9-(k+1))+1:=by omega
   have hp:n/128* 128^(9-k)=n/128* 128* 128^(9-(k+1)):=by rw[e,Nat.pow_succ,Nat.mul_comm (128^_) 128,Nat.mul_assoc]
   have hs:acc+n%128* 128^(9-(k+1))+n/128* 128^(9-k)=acc+n* 128^(9-(k+1)):=by
    rw[hp,Nat.add_assoc,←Nat.add_mul]
    congr 2
    omega
   rw[ih _ _ r (by omega) (by rw[hs];exact h) (.inr (by omega)),hs]
theorem fN(n:Nat)(h:n<18446744073709551616)(r:List Nat):aN (bq n++r)=(n,(bq n).length,0):=by
 have:=v7 9 0 n r (Nat.le_refl _) (by simpa using h) (.inl (Nat.le_refl _))
 unfold aN
 rw[this]
 simp
theorem p6:∀(k acc:Nat) (b r:List Nat) (N:Nat),(∀c∈b,c<256)→k≤9→dd (k+1) acc b=(.ok N,r)→∃n,b=bq n++r∧N=acc+n* 128^(9-k)∧(9≤k∨n≠0):=by
 intro k
 induction k with
 |zero=>
  intro acc b r N hb hk h
  cases b with
  |nil=>simp[dd]at h
  |cons c b=>
   simp only[dd]at h
   split at h
   ·simp at h
   ·split at h
    ·rename_i h1 h2
     simp only[Prod.mk.injEq,Except.ok.injEq]at h
     obtain⟨rfl,rfl⟩:=h
     refine⟨c,by rw[cr h2];rfl,by rw[Nat.mod_eq_of_lt h2],.inr (by omega)⟩
    ·simp at h
 |succ k ih=>
  intro acc b r N hb hk h
  cases b with
  |nil=>simp[dd]at h
  |cons c b=>
   unfold dd at h
   split at h
   ·simp at h
   ·split at h
    ·rename_i h1 h2
     simp only[Prod.mk.injEq,Except.ok.injEq]at h
     obtain⟨rfl,rfl⟩:=h
     refine⟨c,by rw[cr h2];rfl,by rw[Nat.mod_eq_of_lt h2],?_⟩
     omega
    ·rename_i h1 h2
     obtain⟨m,rfl,hN,hm⟩:=ih _ b r N (fun x hx=>hb x (by simp[hx])) (by omega) h
     have hc:=hb c (by simp)
     have hm0:m≠0:=by omega
     refine⟨c%128+128* m,?_,?_,.inr (by omega)⟩
     ·rw[jf (n:=c%128+128* m) (by omega),show(c%128+128* m)%128+128=c by omega,show(c%128+128* m)/128=m by omega];rfl
     ·rw[hN,show 9-k=(9-(k+1))+1 by omega,Nat.pow_succ,Nat.add_mul,Nat.add_assoc]
      congr 2
      rw[Nat.mul_comm (128^_) 128,←Nat.mul_assoc,Nat.mul_comm m 128]
theorem o5:∀(k acc:Nat) (b r:List Nat) (e:Int),dd k acc b=(.error e,r)→e≠0
 |0,_,_,_,_,h=>by simp only[dd,Prod.mk.injEq,Except.error.injEq]at h;omega
 |_+1,_,[],_,_,h=>by simp only[dd,Prod.mk.injEq,Except.error.injEq]at h;omega
 |k+1,acc,c::b,r,e,h=>by
  unfold dd at h
  split at h
  ·simp only[Prod.mk.injEq,Except.error.injEq]at h;omega
  ·split at h
   ·simp at h
   ·exact o5 k _ b r e h
theorem gK{b:List Nat}{n k:Nat}(hb:∀c∈b,c<256)(h:aN b=(n,k,0)):k=(bq n).length∧b=bq n++b.drop k:=by
 unfold aN at h
 split at h
 ·rename_i N r hn
  obtain⟨m,rfl,hN,_⟩:=p6 9 0 b r N hb (Nat.le_refl _) hn
  simp only[Prod.mk.injEq]at h
  obtain⟨rfl,rfl,_⟩:=h
  have:N=m:=by simpa using hN
  subst this
  refine⟨by simp,by simp⟩
 ·rename_i e r hn
  simp only[Prod.mk.injEq]at h
  exact absurd h.2.2 (o5 _ _ _ _ _ hn)
theorem fx:∀(l:List Bool) (j:Nat),(byteOf l).testBit j=l.getD j false
 |[],j=>by simp[byteOf]
 |b::r,0=>by
  rw[Nat.testBit_zero]
  simp only[byteOf,List.getD_cons_zero]
  cases b<;>simp<;>omega
 |b::r,j+1=>by
  rw[Nat.testBit_succ]
  have:(byteOf (b::r))/2=byteOf r:=by simp only[byteOf];cases b<;>simp<;>omega
  rw[this,fx r j,List.getD_cons_succ]
theorem tL(l:List Bool):cU (byteOf l) l.length=l:=by
 apply List.ext_getElem
 ·rw[dO]
 ·intro i h1 h2
  simp only[cU,List.getElem_map,List.getElem_range,fx]
  simp[List.getD,h2]
theorem mj(n w:Nat)(h:n<2^w):byteOf (cU n w)=n:=by
 apply Nat.eq_of_testBit_eq
 intro j
 rw[fx]
 by_cases hj:j<w
 ·simp[List.getD,cU,hj]
 ·have:n.testBit j=false:=Nat.testBit_lt_two_pow (Nat.lt_of_lt_of_le h (Nat.pow_le_pow_right (by decide) (by omega)))
  simp[List.getD,cU,hj,this]
theorem pD(l:List Bool):∀m:Nat,byteOf (l++List.replicate m false)=byteOf l:=by
 intro m
 apply Nat.eq_of_testBit_eq
 intro j
 rw[fx,fx]
 simp only[List.getD]
 by_cases hj:j<l.length
 ·rw[List.getElem?_append_left hj]
 ·rw[List.getElem?_append_right (by omega),List.getElem?_eq_none (by omega:l.length≤j),List.getElem?_replicate]
  split<;>rfl
theorem oo:∀l:List Bool,byteOf l=0→l=List.replicate l.length false
 |[],_=>rfl
 |b::r,h=>by
  have hb:b=false:=by
   cases b
   ·rfl
   ·simp only[byteOf,Bool.toNat_true]at h;omega
  have hr:byteOf r=0:=by simp only[byteOf]at h;omega
  rw[List.length_cons,List.replicate_succ,hb,←oo r hr]
theorem yh(L:List Bool):de (cg L)=L++List.replicate (8* ((L.length+7)/8)-L.length) false:=by
 have hlen:(de (cg L)).length=8* ((L.length+7)/8):=by rw[jg,cF]
 apply List.ext_getElem
 ·rw[hlen,List.length_append,List.length_replicate];omega
 ·intro i h1 h2
  rw[hlen]at h1
  have hq:i/8<(L.length+7)/8:=by omega
  have hp:(cg L)[i/8]?=some (eB L (i/8)):=by simp[cg,hq]
  have h3:=nL (cg L) i _ hp
  rw[List.getElem?_eq_getElem (by rw[hlen];exact h1)]at h3
  rw[Option.some.inj h3]
  unfold eB
  rw[fx]
  have h8:i%8<8:=Nat.mod_lt _ (by decide)
  simp only[List.getD]
  rw[List.getElem?_take_of_lt h8,List.getElem?_drop,show 8* (i/8)+i%8=i by omega]
  by_cases hi:i<L.length
  ·rw[List.getElem_append_left hi,List.getElem?_eq_getElem hi];rfl
  ·rw[List.getElem_append_right (by omega),List.getElem?_eq_none (by omega:L.length≤i)]
   simp
theorem qv:∀(S:List Nat) (w k:Nat) (x:Nat),S[k]?=some x→((dt S w).drop (k* w)).take w=cU x w
 |[],w,k,x,h=>by simp at h
 |y::S,w,0,x,h=>by
  obtain rfl:y=x:=by simpa using h
  have e:dt (y::S) w=cU y w++dt S w:=rfl
  rw[e,Nat.zero_mul,List.drop_zero,List.take_append_of_le_length (by rw[dO];exact Nat.le_refl _),List.take_of_length_le (by rw[dO];exact Nat.le_refl _)]
 |y::S,w,k+1,x,h=>by
  have e:dt (y::S) w=cU y w++dt S w:=rfl
  rw[e,Nat.add_mul,Nat.one_mul,Nat.add_comm,←List.drop_drop,List.drop_left' (dO y w)]
  exact qv S w k x h
theorem j9(S:List Nat)(w:Nat)(h:∀n∈S,n<2^w):bJ (cN S w) S.length w=S∧bO (cN S w) S.length w=0:=by
 have hL:=en S w
 have hB:=yh (dt S w)
 have hpl:(cN S w).length=((dt S w).length+7)/8:=cF _
 constructor
 ·apply List.ext_getElem
  ·rw[c6]
  ·intro k h1 h2
   have hx:=List.getElem?_eq_getElem h2
   have hlt:=h _ (List.getElem_mem h2)
   simp only[bJ,List.getElem_map,List.getElem_range,uG]
   unfold cN
   rw[hB]
   have hk:k* w+w≤(dt S w).length:=by rw[hL,←Nat.succ_mul];exact Nat.mul_le_mul_right _ h2
   rw[List.drop_append_of_le_length (by omega),List.take_append_of_le_length (by rw[List.length_drop];omega),qv S w k _ hx,mj _ _ hlt]
 ·unfold bO
  rw[if_neg (by omega),if_neg (by omega)]
  unfold cN
  rw[hB,List.drop_append_of_le_length (by omega),List.drop_of_length_le (by omega),pD]
  rfl
theorem EE(b:List Nat)(i c:Nat)(h:b[i]?=some c):((de b).drop (8* i)).take 8=cU c 8:=by
 have:=qv b 8 i c h
 rw[Nat.mul_comm]
 exact this
theorem ou(b:List Nat)(n w:Nat)(hb:∀c∈b,c<256)(h:bO b n w=0):cN (bJ b n w) w=b:=by
 unfold bO at h
 split at h
 ·simp at h
 rename_i h1
 split at h
 ·simp at h
 rename_i h2
 split at h
 ·rename_i h3
  have hz:=oo _ h3
  have hlen:=jg b
  have hU:∀m,m≤n→dt (bJ b m w) w=(de b).take (m* w):=by
   intro m
   induction m with
   |zero=>intro _;simp[bJ,dt]
   |succ m ih=>
    intro hm
    have hmw:(m+1)* w≤n* w:=Nat.mul_le_mul_right _ hm
    rw[mJ,p0,ih (by omega),Nat.succ_mul,List.take_add]
    congr 1
    unfold uG
    have hl:(((de b).drop (m* w)).take w).length=w:=by
     rw[Nat.succ_mul]at hmw
     rw[List.length_take,List.length_drop];omega
    have:=tL (((de b).drop (m* w)).take w)
    rw[hl]at this
    exact this
  have hB:de b=dt (bJ b n w) w++List.replicate ((de b).drop (n* w)).length false:=by
   rw[hU n (Nat.le_refl _),←hz,List.take_append_drop]
  have hLl:(dt (bJ b n w) w).length=n* w:=by rw[en,c6]
  apply List.ext_getElem
  ·rw[cN,cF,hLl];omega
  ·intro i h4 h5
   have hx:=List.getElem?_eq_getElem h5
   have hlt:=hb _ (List.getElem_mem h5)
   have e8:=EE b i _ hx
   rw[hB]at e8
   simp only[cN,cg,List.getElem_map,List.getElem_range,eB]
   rw[←mj b[i] 8 (by omega),←e8]
   rw[List.drop_append,List.take_append,List.drop_replicate,List.take_replicate,pD]
 ·simp at h
theorem sK(n:Int)(h:dI n):eE (fZ n)=n:=by
 obtain⟨h1,h2⟩:=h
 unfold fZ eE
 by_cases h0:0≤n
 ·rw[if_pos h0,if_neg (by omega)];omega
 ·rw[if_neg h0,if_pos (by omega)];omega
theorem mB(n:Nat)(h:n<18446744073709551616):dI (eE n):=by
 unfold eE dI
 split<;>omega
theorem sW(n:Nat)(h:n<18446744073709551616):fZ (eE n)=n:=by
 unfold eE fZ
 split
 ·rw[if_neg (by omega)];omega
 ·rw[if_pos (by omega)];omega
theorem ji(n:Int):∃q:Int,IntKind.i64.wrap n=n+q* 18446744073709551616:=by
 have h1:=Int.emod_add_mul_ediv n 18446744073709551616
 simp only[IntKind.wrap,IntKind.signed,IntKind.bits]
 simp only[show((2:Int)^64)=18446744073709551616 from rfl,show((2:Int)^(64-1))=9223372036854775808 from rfl]
 by_cases h:n%18446744073709551616≥9223372036854775808
 ·refine⟨-(n/18446744073709551616)-1,?_⟩
  simp only[h,decide_true,Bool.true_and,if_true]
  omega
 ·refine⟨-(n/18446744073709551616),?_⟩
  simp only[h,decide_false,Bool.and_false,Bool.false_eq_true,if_false]
  omega
theorem nW(u:Nat):dh (dh u)=dh u:=by
 unfold dh
 by_cases h:Er u=true
 ·rw[if_pos h];decide
 ·rw[if_neg h,if_neg h]
theorem nt(u:Nat)(h:u<18446744073709551616):ee (er u)=dh u:=by
 have hl:=ld u h
 have hi:=nW u
 unfold er
 generalize dh u=c at*
 unfold ee
 by_cases h1:9223372036854775808≤c
 ·rw[if_pos h1,if_neg (by omega),show 18446744073709551615-(18446744073709551615-c)=c by omega,hi]
 ·rw[if_neg h1,if_pos (by omega),show c+9223372036854775808-9223372036854775808=c by omega,hi]
theorem uf{i:Int}(h:dI i):CN (jo i)=i:=by
 obtain⟨h1,h2⟩:=h
 unfold CN
 obtain⟨q,hq⟩:=ji ((jo i:Nat):Int)
 have hr:=dF ((jo i:Nat):Int)
 have ht:((jo i:Nat):Int)=i%18446744073709551616:=by unfold jo;omega
 omega
theorem zG{n:Nat}(h:n<18446744073709551616):jo (CN n)=n:=by
 unfold CN
 obtain⟨q,hq⟩:=ji (n:Int)
 rw[hq]
 unfold jo
 omega
theorem F0(n:Nat):dI (CN n):=dF _
theorem Eo(n:Nat)(hn:n<18446744073709551616):∀k,k≤8→j8 ((qw n).take k)=n/256^(8-k):=by
 intro k
 induction k with
 |zero=>intro _;rw[List.take_zero];exact(Nat.div_eq_of_lt hn).symm
 |succ k ih=>
  intro hk
  rw[vT n k (by omega),iS,ih (by omega),show 8-k=(7-k)+1 by omega,show 8-(k+1)=7-k by omega,Nat.pow_succ,←Nat.div_div_eq_div_mul]
  omega
theorem zU(n:Nat)(hn:n<18446744073709551616):j8 (qw n)=n:=by
 have h:=Eo n hn 8 (Nat.le_refl _)
 rw[List.take_of_length_le (by rw[iB];exact Nat.le_refl _)]at h
 rw[h];simp
theorem F5:∀(k:Nat) (l m:List Nat),l.length=k→m.length=k→cf l→cf m→j8 l=j8 m→l=m:=by
 intro k
 induction k with
 |zero=>intro l m h1 h2 _ _ _;rw[List.length_eq_zero_iff.1 h1,List.length_eq_zero_iff.1 h2]
 |succ k ih=>
  intro l m h1 h2 b1 b2 h
  have n1:l≠[]:=fun e=>by rw[e]at h1;simp at h1
  have n2:m≠[]:=fun e=>by rw[e]at h2;simp at h2
  rw[←List.dropLast_concat_getLast n1,←List.dropLast_concat_getLast n2,iS,iS]at h
  have c1:=b1 _ (List.getLast_mem n1)
  have c2:=b2 _ (List.getLast_mem n2)
  have e1:=ih l.dropLast m.dropLast (by simp[h1]) (by simp[h2]) (fun c hc=>b1 c (List.dropLast_subset l hc)) (fun c hc=>b2 c (List.dropLast_subset m hc)) (by omega)
  rw[←List.dropLast_concat_getLast n1,←List.dropLast_concat_getLast n2,e1,show l.getLast n1=m.getLast n2 by omega]
theorem wh(n:Nat):cf (qw n):=fun c hc=>by
 unfold qw at hc
 obtain⟨i,_,rfl⟩:=List.mem_map.1 hc
 exact Nat.mod_lt _ (by decide)
theorem Fa{l:List Nat}(hl:l.length=8)(hb:cf l):qw (j8 l)=l:=by
 have hlt:j8 l<18446744073709551616:=sL 8 l hl hb
 exact F5 8 _ _ (iB _) hl (wh _) hb (zU _ hlt)
theorem wk(s:ByteArray):nh (fa s)=s:=by
 apply toList_inj
 rw[jc,fa,List.map_map,ByteArray.toList_eq]
 conv=>rhs;rw[←List.map_id s.data.toList]
 apply List.map_congr_left
 intro x _
 simp
theorem j3{t:List Nat}(h:cf t):fa (nh t)=t:=by
 have hl:=jc t
 rw[ByteArray.toList_eq]at hl
 unfold fa
 rw[hl,List.map_map]
 conv=>rhs;rw[←List.map_id t]
 apply List.map_congr_left
 intro x hx
 have:=h x hx
 simp[Nat.mod_eq_of_lt this]
theorem AO(n:Nat)(h:n<18446744073709551616)(r:List Nat):dd 10 0 (bq n++r)=(.ok n,r):=by
 have:=v7 9 0 n r (Nat.le_refl _) (by simpa using h) (.inl (Nat.le_refl _))
 simpa using this
theorem x7(s:ByteArray)(hs:s.size≤1024)(r:List Nat):cP (lk s++r) 1024=(fa s,r,0):=by
 unfold cP lk
 have hl:=gN s
 rw[List.append_assoc,AO _ (by omega)]
 simp only
 rw[if_neg (by omega),if_neg (by rw[List.length_append];omega),←hl,List.take_left,List.drop_left]
theorem Ay{b t r:List Nat}(hb:cf b)(h:cP b 1024=(t,r,0)):b=lk (nh t)++r∧t.length≤1024∧cf t:=by
 unfold cP at h
 split at h
 ·rename_i n rr hn
  obtain⟨m,hm,he,_⟩:=p6 9 0 b rr n hb (Nat.le_refl _) hn
  have he':n=m:=by simpa using he
  subst he'
  split at h
  ·simp at h
  split at h
  ·simp at h
  rename_i h1 h2
  simp only[Prod.mk.injEq,and_true]at h
  obtain⟨rfl,rfl⟩:=h
  have hrb:cf rr:=fun c hc=>hb c (by rw[hm];exact List.mem_append_right _ hc)
  have htb:cf (rr.take n):=fun c hc=>hrb c (List.mem_of_mem_take hc)
  have hsz:(nh (rr.take n)).size=n:=by
   rw[←gN,j3 htb,List.length_take];omega
  refine⟨?_,by rw[List.length_take];omega,htb⟩
  unfold lk
  rw[hsz,j3 htb,List.append_assoc,List.take_append_drop]
  exact hm
 ·rename_i e rr hn
  simp only[Prod.mk.injEq]at h
  exact absurd h.2.2 (o5 10 0 b rr e hn)
theorem fF(k:Int):bT k=true↔k=1∨k=2∨k=3:=by unfold bT;simp;omega
theorem jZ{v:aj}(h:v.kind=1):cW v=true↔v.s=dH:=by
 unfold cW
 rw[if_neg (by omega),if_pos h,decide_eq_true_eq,fV]
theorem mI{v:aj}(h:v.kind=2):cW v=true↔jo v.i=dh (jo v.i)∧v.s=dH:=by
 unfold cW
 rw[if_pos h,Bool.and_eq_true,decide_eq_true_eq,decide_eq_true_eq,fV]
theorem jt{v:aj}(h:v.kind=3):cW v=true↔v.i=0∧v.s.size≤1024:=by
 unfold cW
 rw[if_neg (by omega),if_neg (by omega),if_pos h,Bool.and_eq_true,decide_eq_true_eq,decide_eq_true_eq]
theorem jD{a b:aj}(h1:a.kind=b.kind)(h2:a.i=b.i)(h3:a.s=b.s):a=b:=by
 cases a;cases b;simp only at h1 h2 h3;subst h1 h2 h3;rfl
theorem oM{v:aj}(r:List Nat)(hi:dI v.i)(hm:cW v=true)(hk:bT v.kind=true):dG (cY v++r) v.kind=(v,r,0):=by
 rcases(fF _).1 hk with h|h|h
 ·have hs:=(jZ h).1 hm
  unfold dG cY
  rw[h]
  simp only[if_true,show((1:Int)=0)=False from by simp,if_false]
  rw[fN _ (gk hi.1 hi.2)]
  simp only[if_true]
  rw[sK _ hi,List.drop_left]
  rw[show ct v.i=v from jD h.symm rfl hs.symm]
 ·obtain⟨hc,hs⟩:=(mI h).1 hm
  have hu:=j7 v.i
  have hk:=zN _ hu
  have hbl:=iB (er (jo v.i))
  have ht:(qw (er (jo v.i))++r).take 8=qw (er (jo v.i)):=List.take_left' hbl
  have hd:(qw (er (jo v.i))++r).drop 8=r:=List.drop_left' hbl
  unfold dG cY
  rw[h]
  simp only[if_true,show((2:Int)=0)=False from by simp,show((2:Int)=1)=False from by simp,if_false]
  unfold iO
  rw[if_neg (by rw[List.length_append,hbl];omega),ht,hd,zU _ hk,nt _ hu,←hc,if_pos rfl,uf hi]
  rw[show(⟨2,v.i,dH⟩:aj)=v from jD h.symm rfl hs.symm]
 ·obtain⟨h0,hsz⟩:=(jt h).1 hm
  unfold dG cY
  rw[h]
  simp only[if_true,show((3:Int)=0)=False from by simp,show((3:Int)=1)=False from by simp,show((3:Int)=2)=False from by simp,if_false]
  rw[x7 v.s hsz]
  simp only[if_true]
  rw[wk,show(⟨3,0,v.s⟩:aj)=v from jD h.symm h0.symm rfl]
theorem uT{b r:List Nat}{k:Int}{v:aj}(hb:cf b)(hk:bT k=true)(h:dG b k=(v,r,0)):b=cY v++r∧cW v=true∧v.kind=k∧dI v.i:=by
 rcases(fF _).1 hk with rfl|rfl|rfl
 ·unfold dG at h
  rw[if_neg (by decide),if_pos rfl]at h
  split at h
  ·rename_i he
   simp only[Prod.mk.injEq,and_true]at h
   obtain⟨rfl,rfl⟩:=h
   rcases hg:aN b with⟨n,j,e⟩
   rw[hg]at he
   simp only at he
   subst he
   have hn:n<18446744073709551616:=by have:=ju b;rw[hg]at this;exact this
   obtain⟨hj,hbe⟩:=gK hb hg
   refine⟨?_,uq _,rfl,mB n hn⟩
   rw[show cY (ct (eE n))=bq (fZ (eE n))from if_pos rfl,sW n hn]
   exact hbe
  ·rename_i he
   simp only[Prod.mk.injEq]at h
   exact absurd h.2.2 he
 ·unfold dG at h
  rw[if_neg (by decide),if_neg (by decide),if_pos rfl]at h
  unfold iO at h
  split at h
  ·simp at h
  rename_i h8
  split at h
  ·rename_i hkey
   simp only[Prod.mk.injEq,and_true]at h
   obtain⟨rfl,rfl⟩:=h
   have h8l:(b.take 8).length=8:=by rw[List.length_take];omega
   have h8b:cf (b.take 8):=fun c hc=>hb c (List.mem_of_mem_take hc)
   have hlt:j8 (b.take 8)<18446744073709551616:=sL 8 _ h8l h8b
   have hul:=rL hlt
   have hcl:ee (j8 (b.take 8))=dh (ee (j8 (b.take 8))):=by
    unfold ee
    split<;>rw[nW]
   refine⟨?_,(mI rfl).2 ⟨?_,rfl⟩,rfl,F0 _⟩
   ·rw[show cY ⟨2,CN (ee (j8 (b.take 8))),dH⟩=qw (er (jo (CN (ee (j8 (b.take 8))))))from rfl,zG hul,hkey,Fa h8l h8b,List.take_append_drop]
   ·show jo (CN _)=dh (jo (CN _))
    rw[zG hul]
    exact hcl
  ·simp at h
 ·unfold dG at h
  rw[if_neg (by decide),if_neg (by decide),if_neg (by decide),if_pos rfl]at h
  split at h
  ·rename_i he
   simp only[Prod.mk.injEq,and_true]at h
   obtain⟨rfl,rfl⟩:=h
   rcases ht:cP b 1024 with⟨t,rr,e⟩
   rw[ht]at he
   simp only at he
   subst he
   obtain⟨h1,h2,h3⟩:=Ay hb ht
   refine⟨h1,(jt rfl).2 ⟨rfl,?_⟩,rfl,by unfold dI;simp⟩
   show(nh t).size≤1024
   rw[←gN,j3 h3]
   exact h2
  ·rename_i he
   simp only[Prod.mk.injEq]at h
   exact absurd h.2.2 he
theorem DY{a b:aj}(ha:cW a=true)(hb:cW b=true)(hk:a.kind=b.kind)(hkk:bT a.kind=true)(ia:dI a.i)(ib:dI b.i)(h:aU a b=0):a=b:=by
 unfold aU at h
 rw[if_neg (by simpa using hk)]at h
 rcases(fF _).1 hkk with k|k|k
 ·rw[if_pos k]at h
  exact jD hk (je.1 h) (((jZ k).1 ha).trans ((jZ (hk▸k)).1 hb).symm)
 ·rw[if_neg (by omega),if_pos k]at h
  obtain⟨c1,s1⟩:=(mI k).1 ha
  obtain⟨c2,s2⟩:=(mI (hk▸k)).1 hb
  have hkey:er (jo a.i)=er (jo b.i):=by
   unfold Ao gj at h
   by_cases h1:er (jo a.i)<er (jo b.i)
   ·simp[h1]at h
   ·by_cases h2:er (jo b.i)<er (jo a.i)
    ·simp[h1,h2]at h
    ·omega
  have e:jo a.i=jo b.i:=by
   rw[c1,c2,←nt _ (j7 a.i),←nt _ (j7 b.i),hkey]
  exact jD hk (by rw[←uf ia,←uf ib,e]) (s1.trans s2.symm)
 ·rw[if_neg (by omega),if_neg (by omega),if_pos k]at h
  exact jD hk ((((jt k).1 ha).1).trans (((jt (hk▸k)).1 hb).1).symm) (Be.1 h)
def gb(k:Int)(v:aj):Prop:=cW v=true∧v.kind=k∧dI v.i
theorem np{k:Int}(hk:bT k=true):∀(W:List aj) (r:List Nat),(∀v∈W,gb k v)→aX k W.length (a8 W++r)=(W,r,0)
 |[],r,_=>rfl
 |v::W,r,h=>by
  obtain⟨h1,h2,h3⟩:=h v (by simp)
  have e:a8 (v::W)++r=cY v++(a8 W++r):=by simp[a8]
  have ho:=oM (v:=v) (a8 W++r) h3 h1 (by rw[h2];exact hk)
  rw[h2]at ho
  rw[e,List.length_cons]
  unfold aX
  rw[ho]
  simp only[if_true]
  rw[np hk W r fun x hx=>h x (by simp[hx])]
  simp
theorem l5{k:Int}(hk:bT k=true):∀(n:Nat) (b:List Nat) (W:List aj) (r:List Nat),cf b→aX k n b=(W,r,0)→b=a8 W++r∧∀v∈W,gb k v
 |0,b,W,r,_,h=>by
  simp only[aX,Prod.mk.injEq,and_true]at h
  obtain⟨rfl,rfl⟩:=h
  exact⟨by simp[a8],by simp⟩
 |n+1,b,W,r,hb,h=>by
  unfold aX at h
  rcases hv:dG b k with⟨v,c,e⟩
  rw[hv]at h
  simp only at h
  split at h
  ·rename_i he
   subst he
   obtain⟨h1,h2,h3,h4⟩:=uT hb hk hv
   rcases hr:aX k n c with⟨W',r',f⟩
   rw[hr]at h
   simp only at h
   split at h
   ·rename_i hf
    subst hf
    simp only[Prod.mk.injEq,and_true]at h
    obtain⟨rfl,rfl⟩:=h
    have hc:cf c:=fun x hx=>hb x (by rw[h1];exact List.mem_append_right _ hx)
    obtain⟨g1,g2⟩:=l5 hk n c W' r' hc hr
    refine⟨?_,?_⟩
    ·rw[h1,g1];simp[a8]
    ·intro x hx
     rcases List.mem_cons.1 hx with rfl|hx
     ·exact⟨h2,h3,h4⟩
     ·exact g2 x hx
   ·rename_i hf
    simp only[Prod.mk.injEq]at h
    exact absurd h.2.2 hf
  ·rename_i he
   simp only[Prod.mk.injEq]at h
   exact absurd h.2.2 he
theorem cx(l:List aj)(k:Int):aQ l k=0↔bT k=true∧l.length≤4096∧∀v∈l,v.kind=k∧cW v=true:=by
 constructor
 ·intro h
  refine⟨?_,eg h,fun v hv=>⟨?_,eI h v hv⟩⟩
  ·unfold aQ at h
   cases hk:bT k with
   |true=>rfl
   |false=>rw[hk]at h;simp at h
  ·unfold aQ at h
   split at h
   ·simp at h
   split at h
   ·simp at h
   split at h
   ·simp at h
   ·rename_i h3
    have h3':l.any (fun v=> !decide (v.kind=k))=false:=by simpa using h3
    simpa using List.any_eq_false.1 h3' v hv
 ·rintro⟨h1,h2,h3⟩
  unfold aQ
  rw[h1,if_neg (by simp),if_neg (by omega),if_neg,if_neg]
  ·rw[Bool.not_eq_true,List.any_eq_false]
   intro v hv
   simp[(h3 v hv).2]
  ·rw[Bool.not_eq_true,List.any_eq_false]
   intro v hv
   simp[(h3 v hv).1]
theorem lE.lt_trans{α:Type}{c:α→α→Int}(h:lE c){x y z:α}(h1:c x y<0)(h2:c y z<0):c x z<0:=by
 have h3:=h.le_trans (x:=x) (y:=y) (z:=z) (by omega) (by omega)
 rcases Int.lt_or_eq_of_le h3 with h4|h4
 ·exact h4
 ·have h5:=(h.Ft (z:=y) h4).1 h1
  have h6:=(h.fl y z).1 h2
  omega
theorem kH.JX{W:List aj}(h:kH W):mR W:=by
 unfold mR
 rw[List.pairwise_iff_getElem]
 have key:∀(d i:Nat) (x y:aj),W[i]?=some x→W[i+d+1]?=some y→aU x y<0:=by
  intro d
  induction d with
  |zero=>intro i x y hx hy;exact h i x y hx hy
  |succ d ih=>
   intro i x y hx hy
   have hlt:=(List.getElem?_eq_some_iff.1 hy).1
   have hz:=List.getElem?_eq_getElem (show i+d+1<W.length by omega)
   exact bF.lt_trans (ih i x _ hx hz) (h (i+d+1) _ y hz (by rw[←hy,show i+d+1+1=i+(d+1)+1 by omega]))
 intro i j h1 h2 hij
 have:=key (j-i-1) i _ _ (List.getElem?_eq_getElem h1) (by rw[show i+(j-i-1)+1=j by omega];exact List.getElem?_eq_getElem h2)
 simpa[oO]using this
theorem mR.Ib{W:List aj}(h:mR W):kH W:=fun i x y hx hy=>(h.get hx hy).2 (by omega)
theorem mR.zero{W:List aj}(h:mR W){i j:Nat}{x y:aj}(hx:W[i]?=some x)(hy:W[j]?=some y)(hc:aU x y=0):i=j:=by
 have h1:=h.get hx hy
 have h2:=h.get hy hx
 have h3:=(bF.zero x y).1 hc
 omega
theorem vB:∀{A B:List aj},mR A→mR B→(∀x,x∈A↔x∈B)→A=B
 |[],[],_,_,_=>rfl
 |[],b::B,_,_,h=>by have:=(h b).2 (by simp);simp at this
 |a::A,[],_,_,h=>by have:=(h a).1 (by simp);simp at this
 |a::A,b::B,hA,hB,h=>by
  obtain⟨a1,a2⟩:=List.pairwise_cons.1 hA
  obtain⟨b1,b2⟩:=List.pairwise_cons.1 hB
  have Gh:∀x,oO aU x x=true→False:=fun x hx=>by
   have:=bF.self x
   simp[oO,this]at hx
  have hab:a=b:=by
   rcases List.mem_cons.1 ((h a).1 (by simp))with e|ha
   ·exact e
   rcases List.mem_cons.1 ((h b).2 (by simp))with e|hb
   ·exact e.symm
   have g1:=b1 a ha
   have g2:=a1 b hb
   simp only[oO,decide_eq_true_eq]at g1 g2
   have:=(bF.fl a b).1 g2
   omega
  subst hab
  rw[vB a2 b2 fun x=>?_]
  constructor
  ·intro hx
   rcases List.mem_cons.1 ((h x).1 (by simp[hx]))with rfl|hx'
   ·exact absurd (a1 _ hx) (fun e=>Gh _ e)
   ·exact hx'
  ·intro hx
   rcases List.mem_cons.1 ((h x).2 (by simp[hx]))with rfl|hx'
   ·exact absurd (b1 _ hx) (fun e=>Gh _ e)
   ·exact hx'
theorem sg:∀{A B:List Nat},A.Nodup→(∀x∈A,x∈B)→A.length≤B.length
 |[],B,_,_=>by simp
 |a::A,B,hA,h=>by
  obtain⟨h1,h2⟩:=List.nodup_cons.1 hA
  have ha:=h a (by simp)
  have:=sg (B:=B.erase a) h2 fun x hx=>by
   have hne:x≠a:=fun e=>h1 (e▸hx)
   exact(List.mem_erase_of_ne hne).2 (h x (by simp[hx]))
  rw[List.length_erase_of_mem ha]at this
  have hp:0<B.length:=List.length_pos_of_mem ha
  simp only[List.length_cons]
  omega
theorem rC{C:List Nat}{n:Nat}:iC C n=true↔(∀c∈C,c<n)∧∀i,i<n→i∈C:=by
 constructor
 ·intro h
  have hlt:=vU h
  refine⟨hlt,fun i hi=>?_⟩
  unfold iC at h
  rw[Bool.and_eq_true,decide_eq_true_eq]at h
  refine Classical.byContradiction fun hn=>?_
  have hT:i∉eA C:=fun e=>hn ((fG C i).1 e)
  have:=kf (m:=n) (seen:=i::eA C) (List.nodup_cons.2 ⟨hT,om C⟩) fun j hj=>by
   rcases List.mem_cons.1 hj with rfl|hj
   ·exact hi
   ·exact hlt j ((fG C j).1 hj)
  simp only[List.length_cons]at this
  omega
 ·rintro⟨h1,h2⟩
  have g1:=kf (m:=n) (om C) fun j hj=>h1 j ((fG C j).1 hj)
  have g2:=sg (A:=List.range n) (B:=eA C) List.nodup_range fun x hx=>(fG C x).2 (h2 x (List.mem_range.1 hx))
  rw[List.length_range]at g2
  unfold iC
  rw[Bool.and_eq_true,decide_eq_true_eq,List.all_eq_true]
  exact⟨fun c hc=>by simpa using h1 c ((fG C c).1 hc),by omega⟩
theorem vO{l:List aj}{i:Nat}{w:aj}(h:(aW aU l)[i]?=some w):ea l w=i:=by
 obtain⟨j,y,h1,h2,h3⟩:=iq (ej bF (List.mem_of_getElem? h))
 unfold ea
 rw[h1,Int.toNat_natCast]
 exact(mg l).zero h2 h h3
theorem qp{l:List aj}{k:Int}{a:aj}(hk:bT k=true)(hg:∀v∈l,gb k v)(ha:a∈l):(aW aU l)[ea l a]?=some a:=by
 obtain⟨j,y,h1,h2,h3⟩:=iq ha
 have hy:=ej bF (List.mem_of_getElem? h2)
 obtain⟨m1,k1,i1⟩:=hg y hy
 obtain⟨m2,k2,i2⟩:=hg a ha
 have e:=DY m1 m2 (by rw[k1,k2]) (by rw[k1];exact hk) i1 i2 h3
 unfold ea
 rw[h1,Int.toNat_natCast,h2,e]
theorem qS{l:List aj}{k:Int}(h:aQ l k=0)(hok:∀v∈l,dI v.i):cT (fb l) l.length k=(aW aU l,l.map (ea l),0)∧fE (fb l) l.length k=(l,0):=by
 obtain⟨hk,hl,hv⟩:=(cx l k).1 h
 have hg:∀v∈l,gb k v:=fun v hm=>⟨(hv v hm).2,(hv v hm).1,hok v hm⟩
 have hgW:∀v∈aW aU l,gb k v:=fun v hm=>hg v (ej bF hm)
 have hwl:=kP l
 have hfit:=rA (l:=l)
 have hrise:=(mg l).Ib
 have hu:iC (l.map (ea l)) (aW aU l).length=true:=by
  rw[rC]
  constructor
  ·intro c hc
   obtain⟨a,ha,rfl⟩:=List.mem_map.1 hc
   exact wo ha
  ·intro i hi
   have h1:=List.getElem?_eq_getElem hi
   exact List.mem_map.2 ⟨_,ej bF (List.mem_of_getElem? h1),vO h1⟩
 have hpick:gH (aW aU l) (l.map (ea l))=l:=by
  unfold gH
  rw[List.map_map]
  conv=>rhs;rw[←List.map_id l]
  apply List.map_congr_left
  intro a ha
  simp only[Function.comp_apply,id_eq,List.getD,qp hk hg ha,Option.getD_some]
 have hcl:(l.map (ea l)).length=l.length:=by simp
 have hun:=j9 (l.map (ea l)) (eC (aW aU l).length) hfit
 rw[hcl]at hun
 have hrd:=np hk (aW aU l) (cN (l.map (ea l)) (eC (aW aU l).length)) hgW
 have hB:fb l=bq (aW aU l).length++(a8 (aW aU l)++cN (l.map (ea l)) (eC (aW aU l).length)):=by unfold fb;rw[List.append_assoc]
 have hT:cT (fb l) l.length k=(aW aU l,l.map (ea l),0):=by
  rw[hB]
  unfold cT
  rw[hk,if_neg (by simp),if_neg (by omega),if_neg (by omega),fN _ (by omega)]
  simp only
  rw[if_neg (by simp),if_neg (by omega),List.drop_left,Int.toNat_natCast]
  unfold eQ
  rw[hrd]
  simp only[if_true]
  rw[if_pos hrise]
  unfold vC
  simp only
  rw[if_neg (by simp),hun.2,if_neg (by simp),hun.1,if_pos hu]
 refine⟨hT,?_⟩
 unfold fE
 rw[hT]
 simp only[if_true]
 rw[hpick]
theorem r7{b:List Nat}{n k:Int}{l:List aj}(hb:cf b)(h:fE b n k=(l,0)):aQ l k=0∧fb l=b∧(l.length:Int)=n∧∀v∈l,dI v.i:=by
 unfold fE at h
 rcases ht:cT b n k with⟨W,C,e⟩
 rw[ht]at h
 simp only at h
 by_cases he:e=0
 ·subst he
  simp only[if_true,Prod.mk.injEq,and_true]at h
  obtain⟨N,many,j,i,rfl,hN,hk,hgp,hmN,hrd,hrise,hWl,huE,hC,hu⟩:=p5 ht
  obtain⟨hj,hbe⟩:=gK hb hgp
  have hdb:cf (b.drop j):=fun c hc=>hb c (List.mem_of_mem_drop hc)
  obtain⟨hdr,hgW⟩:=l5 hk many _ W _ hdb hrd
  generalize hr:(b.drop j).drop i=r at*
  have hrb:cf r:=fun c hc=>hdb c (by rw[hdr];exact List.mem_append_right _ hc)
  have hpu:=ou r N (eC W.length) hrb huE
  rw[←hC]at hpu
  have hCl:C.length=N:=by rw[hC,c6]
  obtain⟨u1,u2⟩:=rC.1 hu
  have hat:∀c∈C,W[c]?=some (W.getD c zV):=fun c hc=>by
   have:=u1 c hc
   simp[List.getD,this]
  have hmem:∀x,x∈l↔x∈W:=by
   intro x
   rw[←h]
   unfold gH
   constructor
   ·intro hx
    obtain⟨c,hc,rfl⟩:=List.mem_map.1 hx
    exact List.mem_of_getElem? (hat c hc)
   ·intro hx
    obtain⟨i,hi,rfl⟩:=List.mem_iff_getElem.1 hx
    exact List.mem_map.2 ⟨i,u2 i hi,by simp[List.getD,hi]⟩
  have hgl:∀v∈l,gb k v:=fun v hv=>hgW v ((hmem v).1 hv)
  have hll:l.length=N:=by rw[←h,gH,List.length_map,hCl]
  have hwords:aW aU l=W:=by
   refine vB (mg l) hrise.JX fun x=>?_
   constructor
   ·intro hx
    exact(hmem x).1 (ej bF hx)
   ·intro hx
    have hxl:=(hmem x).2 hx
    exact List.mem_of_getElem? (qp hk hgl hxl)
  have hcodes:l.map (ea l)=C:=by
   conv=>lhs;arg 2;rw[←h]
   unfold gH
   rw[List.map_map]
   conv=>rhs;rw[←List.map_id C]
   apply List.map_congr_left
   intro c hc
   exact vO (by rw[hwords];exact hat c hc)
  refine⟨(cx l k).2 ⟨hk,by omega,fun v hv=>⟨(hgl v hv).2.1,(hgl v hv).1⟩⟩,?_,by omega,fun v hv=>(hgl v hv).2.2⟩
  unfold fb
  rw[hwords,hcodes,hpu,List.append_assoc,←hdr,hWl]
  exact hbe.symm
 ·rw[if_neg he]at h
  simp only[Prod.mk.injEq]at h
  exact absurd h.2 he
theorem Dk(a z:Int)(h:dI z):IntKind.i64.wrap (IntKind.i64.wrap (a+z)-a)=z:=by
 obtain⟨q,hq⟩:=ji (a+z)
 obtain⟨p,hp⟩:=ji (IntKind.i64.wrap (a+z)-a)
 have hr:=dF (IntKind.i64.wrap (a+z)-a)
 obtain⟨h1,h2⟩:=h
 omega
theorem wrap_add(a b:Int)(h:dI b):IntKind.i64.wrap (a+IntKind.i64.wrap (b-a))=b:=by
 obtain⟨q,hq⟩:=ji (b-a)
 obtain⟨p,hp⟩:=ji (a+IntKind.i64.wrap (b-a))
 have hr:=dF (a+IntKind.i64.wrap (b-a))
 obtain⟨h1,h2⟩:=h
 omega
theorem wu(n:Int):dI (IntKind.i64.wrap n):=dF n
theorem CQ(x:Int)(hx:dI x)(S:List Nat):∀k,dI (qU x S k)
 |0=>hx
 |k+1=>wu _
theorem zA(l:List aj)(v:aj)(h0:l[0]?=some v)(hok:∀v∈l,dI v.i):∀k (y:aj),l[k]?=some y→qU v.i (bY l) k=y.i:=by
 intro k
 induction k with
 |zero=>intro y hy;rw[h0]at hy;cases hy;rfl
 |succ k ih=>
  intro y hy
  have hlt:=(List.getElem?_eq_some_iff.1 hy).1
  have hx:=List.getElem?_eq_getElem (show k<l.length by omega)
  have hy2:l[k+1]=y:=(List.getElem?_eq_some_iff.1 hy).2
  have hs:=jv l k hlt
  have hgd:(bY l).getD k 0=pd l[k] l[k+1]:=by simp[List.getD,hs]
  simp only[qU]
  rw[ih _ hx,hgd,hy2]
  unfold pd
  rw[sK _ (wu _),wrap_add _ _ (hok y (List.mem_of_getElem? hy))]
theorem yN(l:List aj)(v:aj)(h0:l[0]?=some v)(hn:∀v∈l,v=ct v.i)(hok:∀v∈l,dI v.i):ig v.i (bY l) l.length=l:=by
 apply List.ext_getElem
 ·rw[gJ]
 ·intro k h1 h2
  have hy:=List.getElem?_eq_getElem h2
  simp only[ig,List.getElem_map,List.getElem_range]
  rw[zA l v h0 hok k _ hy]
  exact(hn _ (List.getElem_mem h2)).symm
theorem xF(x:Int)(hx:dI x)(S:List Nat)(hS:∀n∈S,n<18446744073709551616):bY (ig x S (S.length+1))=S:=by
 apply List.ext_getElem
 ·rw[fB,gJ];rfl
 ·intro k h1 h2
  have h3:=jv (ig x S (S.length+1)) k (by rw[gJ];omega)
  rw[List.getElem?_eq_getElem h1]at h3
  rw[Option.some.inj h3]
  simp only[ig,List.getElem_map,List.getElem_range,pd,ct]
  have hgd:S.getD k 0=S[k]:=by simp[List.getD,h2]
  have hlt:=hS _ (List.getElem_mem h2)
  simp only[qU,hgd]
  rw[Dk _ _ (mB _ hlt),sW _ hlt]
theorem ky(v:aj)(r:List aj):gI (v::r)=bq (fZ v.i)++(bq (db (bY (v::r)))++cN (bY (v::r)) (db (bY (v::r)))):=by
 rw[←List.append_assoc];rfl
theorem D7(l:List aj)(hl:l≠[])(hm:l.length≤4096)(hn:∀v∈l,v=ct v.i)(hok:∀v∈l,dI v.i):sa (gI l) l.length=(some l,0):=by
 cases l with
 |nil=>exact absurd rfl hl
 |cons v r=>
  have hlen:(v::r).length=r.length+1:=rfl
  have hv:=hok v (by simp)
  have hz:=gk hv.1 hv.2
  have hss:=kY (v::r)
  have hw:=kN hss
  have hfit:=og (l:=bY (v::r))
  have hsl:=fB (v::r)
  have hsum:=yN (v::r) v rfl hn hok
  unfold sa
  rw[if_neg (by omega),if_neg (by omega)]
  unfold H5
  rw[ky,fN _ hz,List.drop_left]
  simp only
  rw[fN _ (by omega),←List.append_assoc,←List.length_append,List.drop_left]
  simp only
  have hu:=j9 (bY (v::r)) (db (bY (v::r))) hfit
  rw[hsl]at hu
  rw[Int.toNat_natCast,hu.1,hu.2,sK _ hv,hsum]
  simp[show ¬64<db (bY (v::r)) by omega]
theorem uN(b:List Nat)(n:Int)(k:List aj)(hb:∀c∈b,c<256)(h:sa b n=(some k,0)):gI k=b∧(k.length:Int)=n∧k≠[]∧n≤4096∧(∀v∈k,v=ct v.i)∧∀v∈k,dI v.i:=by
 unfold sa at h
 by_cases h1:n<0∨4096<n
 ·rw[if_pos h1]at h;simp at h
 rw[if_neg h1]at h
 by_cases h2:n=0
 ·rw[if_pos h2]at h;simp at h
 rw[if_neg h2]at h
 obtain⟨m,hm⟩:∃m:Nat,n=((m+1:Nat):Int):=⟨n.toNat-1,by omega⟩
 have hmt:n.toNat=m+1:=by omega
 unfold H5 at h
 rw[hmt,show m+1-1=m from rfl]at h
 have hlt1:=ju b
 rcases hg:aN b with⟨first,k1,e1⟩
 rw[hg]at h hlt1
 simp only at h hlt1
 by_cases he:e1=0
 ·subst he
  simp only[ne_eq,not_true_eq_false,if_false]at h
  obtain⟨hk1,hb1⟩:=gK hb hg
  have hb2:∀c∈b.drop k1,c<256:=fun c hc=>hb c (List.mem_of_mem_drop hc)
  rcases hg2:aN (b.drop k1)with⟨w,j,e2⟩
  rw[hg2]at h
  simp only at h
  by_cases he2:e2=0
  ·subst he2
   simp only[not_true_eq_false,if_false]at h
   obtain⟨hj,hb3⟩:=gK hb2 hg2
   rw[List.drop_drop]at hb3
   by_cases hw:64<w
   ·rw[if_pos hw]at h;simp at h
   rw[if_neg hw]at h
   by_cases hu:bO (b.drop (k1+j)) m w=0
   ·rw[if_neg (by simp[hu])]at h
    have hpk:=ou (b.drop (k1+j)) m w (fun c hc=>hb c (List.mem_of_mem_drop hc)) hu
    have hSl:=jJ (b.drop (k1+j)) m w (by omega)
    have hSn:=c6 (b.drop (k1+j)) m w
    generalize bJ (b.drop (k1+j)) m w=S at*
    by_cases hwd:db S=w
    ·rw[if_neg (by simp[hwd])]at h
     have hk:k=ig (eE first) S (m+1):=by
      have:=(Prod.mk.inj h).1
      exact(Option.some.inj this).symm
     have hsteps:=xF (eE first) (mB _ hlt1) S hSl
     rw[hSn]at hsteps
     have hnum:∀v∈k,v=ct v.i∧dI v.i:=by
      intro v hv
      rw[hk]at hv
      obtain⟨i,_,rfl⟩:=List.mem_map.1 hv
      exact⟨rfl,CQ _ (mB _ hlt1) S i⟩
     refine⟨?_,by rw[hk,gJ,hm],by rw[hk];intro e;have:=congrArg List.length e;rw[gJ]at this;simp at this,by omega,fun v hv=>(hnum v hv).1,fun v hv=>(hnum v hv).2⟩
     obtain⟨r,hr⟩:∃r,ig (eE first) S (m+1)=ct (eE first)::r:=⟨_,by simp only[ig,List.range_succ_eq_map,List.map_cons];rfl⟩
     rw[hk,hr,ky,←hr,hsteps,hwd,hpk]
     simp only[ct]
     rw[sW _ hlt1,←hb3,←hb1]
    ·rw[if_pos hwd]at h;simp at h
   ·rw[if_pos hu]at h
    simp at h
  ·rw[if_pos he2]at h;simp at h
 ·rw[if_pos he]at h;simp at h
theorem kR{b:List Nat}(h:cf b)(n:Nat):cf (b.drop n):=fun c hc=>h c (List.mem_of_mem_drop hc)
theorem tM{b:List Nat}{n k:Int}{l:List aj}(hb:cf b)(h:dy b n k=(l,0)):bT k=true∧(∀v∈l,gb k v)∧l.length≤4096∧b=a8 l∧(l.length:Int)=n:=by
 unfold dy at h
 split at h
 ·simp at h
 rename_i hk
 have hk:bT k=true:=by simpa using hk
 split at h
 ·simp at h
 split at h
 ·simp at h
 split at h
 ·rename_i he
  simp only[Prod.mk.injEq]at h
  exact absurd h.2 he
 split at h
 ·simp at h
 rename_i h1 h2 h3 h4
 simp only[Prod.mk.injEq,and_true]at h
 have h3:(aX k n.toNat b).2.2=0:=by simpa using h3
 have h4:(aX k n.toNat b).2.1=[]:=by simpa using h4
 have e:aX k n.toNat b=(l,[],0):=by rw[←h,←h3,←h4]
 obtain⟨g1,g2⟩:=l5 hk _ b l [] hb e
 have hlen:=jd k n.toNat b h3
 rw[e]at hlen
 simp only at hlen
 exact⟨hk,g2,by omega,by rw[g1,List.append_nil],by omega⟩
theorem xG{b r:List Nat}{n:Nat}{k:Int}{q:Nat×aj}(hb:cf b)(hk:bT k=true)(h:dM b n k=(q,r,0)):gb k q.2∧b=lf q++r∧1≤q.1∧q.1≤n∧cf r:=by
 obtain⟨g1,g2,j,g3⟩:=qC h
 unfold dM at h
 split at h
 ·rename_i he
  simp only[Prod.mk.injEq]at h
  exact absurd h.2.2 he
 split at h
 ·simp at h
 split at h
 ·rename_i he
  simp only[Prod.mk.injEq]at h
  exact absurd h.2.2 he
 ·rename_i h1 h2 h3
  simp only[Prod.mk.injEq,and_true]at h
  obtain⟨rfl,rfl⟩:=h
  have h3:(dG (b.drop (aN b).2.1) k).2.2=0:=by simpa using h3
  obtain⟨e1,e2,e3,e4⟩:=uT (v:=(dG (b.drop (aN b).2.1) k).1) (r:=(dG (b.drop (aN b).2.1) k).2.1) (kR hb _) hk (by rw[←h3])
  have h1:(aN b).2.2=0:=by simpa using h1
  obtain⟨f1,f2⟩:=gK (n:=(aN b).1) (k:=(aN b).2.1) hb (by rw[←h1])
  refine⟨⟨e2,e3,e4⟩,?_,g1,g2,by rw[g3];exact kR hb _⟩
  unfold lf
  simp only
  rw[List.append_assoc,←e1]
  exact f2
theorem wj(k:Int)(hk:bT k=true):∀(f:Nat) (R:List (Nat×aj)) (n:Nat) (b:List Nat),cf b→(∀r∈R,gb k r.2)→∀r∈(tU k f R n b).1,gb k r.2
 |0,R,n,b,hb,h=>h
 |f+1,R,n,b,hb,h=>by
  unfold tU
  split
  ·exact h
  split
  ·simp
  rename_i he
  split
  ·simp
  obtain⟨q,r,e,hq⟩:∃q r e,dM b n k=(q,r,e):=⟨_,_,_,rfl⟩
  rw[hq]at he⊢
  obtain rfl:e=0:=by simpa using he
  obtain⟨g1,g2,g3,g4,g5⟩:=xG hb hk hq
  refine wj k hk f _ _ _ g5 fun x hx=>?_
  rcases List.mem_append.1 hx with h'|h'
  ·exact h x h'
  ·rw[List.mem_singleton.1 h'];exact g1
theorem xC{R:List (Nat×aj)}{v:aj}(h:v∈cO R):∃r∈R,r.2=v:=by
 have:∀(R:List (Nat×aj)) (l:List aj),v∈R.foldl cd l→v∈l∨∃r∈R,r.2=v:=by
  intro R
  induction R with
  |nil=>exact fun l h=> .inl h
  |cons r R ih=>
   intro l h
   rcases ih _ h with h|⟨r',h1,h2⟩
   ·rcases List.mem_append.1 h with h|h
    ·exact .inl h
    ·exact .inr ⟨r,by simp,(List.eq_of_mem_replicate h).symm⟩
   ·exact .inr ⟨r',by simp[h1],h2⟩
 rcases this R [] h with h|h
 ·cases h
 ·exact h
theorem yA{b:List Nat}{n k:Int}{l:List aj}(hb:cf b)(h:fT b n k=(l,0)):bT k=true∧(∀v∈l,gb k v):=by
 unfold fT at h
 split at h
 ·rename_i he
  simp only[Prod.mk.injEq]at h
  exact absurd h.2 he
 rename_i he
 simp only[Prod.mk.injEq,and_true]at h
 subst h
 unfold dT at he⊢
 split at he
 ·simp at he
 rename_i hk
 have hk:bT k=true:=by simpa using hk
 rw[if_neg (by simp[hk])]
 refine⟨hk,?_⟩
 split
 ·intro v hv;simp[cO]at hv
 split
 ·intro v hv;simp[cO]at hv
 split
 ·intro v hv;simp[cO]at hv
 split
 ·intro v hv;simp[cO]at hv
 intro v hv
 obtain⟨r,h1,rfl⟩:=xC hv
 exact wj k hk _ [] _ b hb (by simp) r h1
theorem CC(b:List Nat)(n k:Int):(fT b n k).1.length≤4096:=by
 unfold fT
 split
 ·simp
 ·exact o7 _
theorem wg(b:List Nat)(n k:Int):(dy b n k).1.length≤4096:=by
 unfold dy
 split
 ·simp
 split
 ·simp
 split
 ·simp
 split
 ·simp
 split
 ·simp
 rename_i h1 h2 h3 h4 h5
 have:=jd k n.toNat b (by simpa using h4)
 simp only
 omega
theorem xN(b:List Nat)(n k:Int)(hb:cf b):(fE b n k).1.length≤4096:=by
 obtain⟨l,e,h⟩:∃l e,fE b n k=(l,e):=⟨_,_,rfl⟩
 by_cases he:e=0
 ·subst he
  have:=r7 hb h
  rw[h]
  exact((cx l k).1 this.1).2.1
 ·unfold fE at h⊢
  split at h
  ·rename_i h0
   simp only[Prod.mk.injEq]at h
   exact absurd h.2.symm he
  ·rename_i h0
   rw[if_neg h0];simp
theorem FK(b:List Nat)(n:Int)(hb:cf b):((sa b n).1.getD []).length≤4096:=by
 obtain⟨o,e,h⟩:∃o e,sa b n=(o,e):=⟨_,_,rfl⟩
 rw[h]
 cases o with
 |none=>simp
 |some l=>
  have he:e=0:=by
   unfold sa at h
   split at h
   ·simp at h
   split at h
   ·simp at h
   unfold H5 at h
   repeat' split at h
   all_goals simp at h
   all_goals first|exact h.2.symm|exact absurd h id
  subst he
  have:=uN b n l hb h
  simp only[Option.getD_some]
  omega
theorem Bm{b:List Nat}{n k w:Int}{l:List aj}(hb:cf b)(h:fU b n k w=(l,0)):bT k=true∧(∀v∈l,gb k v)∧1≤w∧w≤4:=by
 unfold fU at h
 split at h
 ·obtain⟨h1,h2,_⟩:=tM hb h
  exact⟨h1,h2,by omega,by omega⟩
 split at h
 ·obtain⟨h1,h2⟩:=yA hb h
  exact⟨h1,h2,by omega,by omega⟩
 split at h
 ·obtain⟨h1,_,_,h4⟩:=r7 hb h
  obtain⟨g1,_,g3⟩:=(cx l k).1 h1
  exact⟨g1,fun v hv=>⟨(g3 v hv).2,(g3 v hv).1,h4 v hv⟩,by omega,by omega⟩
 split at h
 ·rename_i hw
  obtain⟨hw,rfl⟩:=hw
  simp only[Prod.mk.injEq]at h
  obtain⟨h1,h2⟩:=h
  refine⟨rfl,?_,by omega,by omega⟩
  cases ho:(sa b n).1 with
  |none=>rw[ho]at h1;subst h1;simp
  |some l'=>
   rw[ho]at h1
   subst h1
   obtain⟨_,_,_,_,g1,g2⟩:=uN b n l' hb (by rw[←ho,←h2])
   intro v hv
   refine⟨?_,?_,g2 v hv⟩
   ·rw[g1 v hv];exact(jZ rfl).2 rfl
   ·rw[g1 v hv];rfl
 ·simp at h
theorem vA(b:List Nat)(n k w:Int)(hb:cf b):(fU b n k w).1.length≤4096:=by
 unfold fU
 split
 ·exact wg b n k
 split
 ·exact CC b n k
 split
 ·exact xN b n k hb
 split
 ·exact FK b n hb
 ·simp
end Go.Proofs.YtmbagpfmfiegkaaGreat

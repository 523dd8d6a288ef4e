/- Contracts of functions and lemmas for segReads_holds, part 1. -/
import Derived.Calls
import Derived.Orders
import Derived.LoopN
import Derived.Laws.CopyRow
import Derived.Laws.AppendOwn
import Derived.Maps.AppendAt
import Derived.RowKit3
import Derived.Below
import Derived.WalkKit
import Derived.Lib.AppendStr
import Derived.Great.BuildSlice
import Derived.Maps.RangeRun
import Derived.Laws.BytesString
set_option maxHeartbeats 8000000
set_option maxRecDepth 100000
set_option linter.all false
attribute [go_sem] eq_self
namespace Go.Proofs.YtmbagpfmfiegkaaGreatAw
open Go.RowKit
inductive D where
 |v (x:Value)
 |list (nn:Bool) (es:List (List D))
instance:Inhabited D:=⟨.v undef⟩
inductive AV where
 |top
 |d (x:D)
 |eS
 |ptr (id ver i j:Nat)
 |dt (cs:List D)
 |sl (id ver off len:Nat)
 |agg (cs:List AV)
 |bz (vs:List AV)
 |fn (f:FuncId) (caps:List AV)
 |mp (id:Nat)
 |k8 (id:Nat)
instance:Inhabited AV:=⟨.top⟩
inductive aT where
 |arr (e:TypeId) (k ver:Nat) (es:List (List D))
 |box (e:TypeId) (k ver n:Nat) (cs:List AV)
 |mp (kk:IntKind) (es:List (Int×AV))
 |dead (ver:Nat)
 |iter (m since:Nat) (seen:List Nat)
 |lp (r:Loop) (s:Nat→AV)
abbrev aa:=List aT
def aT.k:aT→Nat
 | .arr _ k _ _=>k
 | .box _ k _ _ _=>k
 | .mp _ _=>1
 | .dead _=>1
 | .iter _ _ _=>1
 | .lp _ _=>1
def aT.ver:aT→Nat
 | .arr _ _ ver _=>ver
 | .box _ _ ver _ _=>ver
 | .mp _ _=>0
 | .dead ver=>ver
 | .iter _ _ _=>0
 | .lp _ _=>0
def aT.live:aT→Bool
 | .dead _=>false
 |_=>true
def aT.len:aT→Nat
 | .arr _ _ _ es=>es.length
 | .box _ _ _ n _=>n
 | .mp _ _=>0
 | .dead _=>0
 | .iter _ _ _=>0
 | .lp _ _=>0
inductive RD (N:Addr→Prop) (w:World):D→Value→Prop
 |v (x:Value) (hx:x.oneCell'=true):RD N w (.v x) x
 |nil (A:Option Addr) (c:Nat) (h:A=none→c=0):RD N w (.list false []) (.slice A 0 c)
 |list (nn:Bool) (es:List (List D)) (ad:Addr) (cap k:Nat) (c:Nat→Nat→Value) (hc:es.length≤cap) (hk:∀e∈es,e.length=k)
   (h:∀i j,i<es.length→j<k→N (ad.add (i* k+j))∧w.cell? (ad.add (i* k+j))=some (c i j))
   (hd:∀i (hi:i<es.length) j (hj:j<(es[i]).length),RD N w ((es[i])[j]) (c i j)):RD N w (.list nn es) (.slice (some ad) es.length cap)
theorem RD.mono{N N':Addr→Prop}{w w':World}{x:D}{y:Value}(h:RD N w x y)(hN:∀a,N a→N' a)
  (hw:∀a v,N a→w.cell? a=some v→w'.cell? a=some v):RD N' w' x y:=by
 induction h with
 |v _ hx=>exact .v _ hx
 |nil A c h=>exact .nil A c h
 |list nn es ad cap k c hc hk h hd ih=>
  exact .list nn es ad cap k c hc hk (fun i j hi hj=>⟨hN _ (h i j hi hj).1,hw _ _ (h i j hi hj).1 (h i j hi hj).2⟩) ih
abbrev bI:=Nat→Option (Nat×Nat)
inductive RA (H:aa) (φ:bI) (N:Addr→Prop) (w:World):AV→Value→Prop
 |top (x:Value):RA H φ N w .top x
 |d {x:D} {y:Value} (h:RD N w x y):RA H φ N w (.d x) y
 |eS (A:Option Addr):RA H φ N w .eS (.slice A 0 0)
 |ptr (id ver i j:Nat) (A:Option Addr) (o:aT) (ho:H[id]?=some o) (hv:ver≤o.ver)
   (h:ver=o.ver→∃B c,φ id=some (B,c)∧A=some ⟨B,i* o.k+j,none⟩):RA H φ N w (.ptr id ver i j) (.pointer A)
 |dt (cs:List D) (ad:Addr) (c:Nat→Value) (h:∀t,t<cs.length→N (ad.add t)∧w.cell? (ad.add t)=some (c t))
   (hd:∀t (ht:t<cs.length),RD N w (cs[t]) (c t)):RA H φ N w (.dt cs) (.pointer (some ad))
 |sl (id ver off len:Nat) (A:Option Addr) (l m:Nat) (o:aT) (ho:H[id]?=some o) (hv:ver≤o.ver)
   (h:ver=o.ver→l=len∧off+len≤o.len∧((φ id=none∧len=0∧off=0∧m=0)∨
    ∃B c,φ id=some (B,c)∧off+len≤c∧A=some ⟨B,off* o.k,none⟩∧m=c-off)):RA H φ N w (.sl id ver off len) (.slice A l m)
 |agg (cs:List AV) (vs:Array Value) (hl:cs.length=vs.size) (h:∀i (h1:i<cs.length) (h2:i<vs.size),RA H φ N w (cs[i]) (vs[i])):RA H φ N w (.agg cs) (.agg vs)
 |bz (cs:List AV) (vs:Array Value) (hl:cs.length=vs.size) (h:∀i (h1:i<cs.length) (h2:i<vs.size),RA H φ N w (cs[i]) (vs[i])):RA H φ N w (.bz cs) (.tuple vs)
 |fn (f:FuncId) (cs:List AV) (vs:Array Value) (hl:cs.length=vs.size) (h:∀i (h1:i<cs.length) (h2:i<vs.size),RA H φ N w (cs[i]) (vs[i])):
   RA H φ N w (.fn f cs) (.func (.func f) #[] vs)
 |mp (id B c:Nat) (kk:IntKind) (es:List (Int×AV)) (ho:H[id]?=some (.mp kk es)) (hp:φ id=some (B,c)):RA H φ N w (.mp id) (.map (some B))
 |k8 (id B:Nat) (o:aT) (ho:H[id]?=some o) (h:o.ver=0→∃c,φ id=some (B,c)):RA H φ N w (.k8 id) (.func (.yield B) #[] #[])
inductive lG (H:aa) (φ:bI) (N:Addr→Prop) (w:World) (id:Nat):aT→Prop
 |arr (e:TypeId) (k ver:Nat) (es:List (List D)) (hk:0<k) (hes:∀c∈es,c.length=k)
   (h:(φ id=none∧es=[])∨∃(B cap:Nat) (cur:Array Value),φ id=some (B,cap)∧w.heap[B]?=some (.cells cur e (0,0))∧es.length≤cap∧cap≤maxLen∧cur.size=cap* k∧
    ∀i (hi:i<es.length) j (hj:j<(es[i]).length),∃c,cur[i* k+j]?=some c∧RD N w ((es[i])[j]) c):lG H φ N w id (.arr e k ver es)
 |box (e:TypeId) (k ver n:Nat) (cs:List AV) (B cap:Nat) (cur:Array Value) (hk:0<k) (hn:cs.length=n* k) (hp:φ id=some (B,cap)) (hb:w.heap[B]?=some (.cells cur e (0,0)))
   (hc:n≤cap) (hm:cap≤maxLen) (hs:cur.size=cap* k) (h:∀j (hj:j<cs.length),∃c,cur[j]?=some c∧RA H φ N w (cs[j]) c):lG H φ N w id (.box e k ver n cs)
 |mp (kk:IntKind) (es:List (Int×AV)) (B cap:Nat) (ents:Array MapEntry) (clock:Nat) (hp:φ id=some (B,cap)) (hb:w.heap[B]?=some (.map ents clock)) (hs:ents.size=es.length) (hck:clock=ents.size) (hbn:∀j (hj:j<ents.size),(ents[j]).born=j)
   (h:∀j (hj:j<es.length) (hj2:j<ents.size),(ents[j]).key= .int kk (es[j]).1∧RA H φ N w (es[j]).2 (ents[j]).val):lG H φ N w id (.mp kk es)
 |dead (ver:Nat) (hp:φ id=none):lG H φ N w id (.dead ver)
 |iter (m since:Nat) (seen:List Nat) (B cap bm cm:Nat) (kk:IntKind) (es:List (Int×AV)) (hp:φ id=some (B,cap)) (hb:w.heap[B]?=some (.mapIter (some bm) since seen.toArray since)) (hm:H[m]?=some (.mp kk es)) (hpm:φ m=some (bm,cm)):
   lG H φ N w id (.iter m since seen)
 |lp (r:Loop) (s:Nat→AV) (B cap:Nat) (hp:φ id=some (B,cap)) (hb:w.heap[B]?=some (.loop r)) (h:∀t,RA H φ N w (s t) (r.tmps.getD t undef)):lG H φ N w id (.lp r s)
structure Rel (H:aa) (φ:bI) (N:Addr→Prop) (w:World):Prop where
 obj:∀id o,H[id]?=some o→lG H φ N w id o
 inj:∀i j B c c',i<H.length→j<H.length→φ i=some (B,c)→φ j=some (B,c')→i=j
 live:∀a,N a→∃v,w.cell? a=some v
 apart:∀a id B c,N a→id<H.length→φ id=some (B,c)→a.block≠B
structure aF (H0:aa) (φ0:bI) (N0:Addr→Prop) (w0:World) (H:aa) (φ:bI) (N:Addr→Prop) (w:World):Prop where
 len:H0.length≤H.length
 os:w.os=w0.os
 tape:w.tape=w0.tape
 output:w.output=w0.output
 size:w0.heap.size≤w.heap.size
 ev:∀k,k<w0.heap.size→(∀id c,id<H0.length→φ0 id≠some (k,c))→w.heap[k]?=w0.heap[k]?
 own:∀id B c,id<H.length→φ id=some (B,c)→B<w0.heap.size→∃id0 c0,id0<H0.length∧φ0 id0=some (B,c0)
 mono:∀a,N0 a→N a
 c8:∀id o,H0[id]?=some o→∃o',H[id]?=some o'∧o'.k=o.k∧o.ver≤o'.ver∧(o.ver=o'.ver→φ id=φ0 id∧o.len≤o'.len)∧∀kk es,o= .mp kk es→φ id=φ0 id∧∃es',o'= .mp kk es'
 qY:∀a,N a→N0 a∨w0.heap.size≤a.block∨∃id c,id<H0.length∧φ0 id=some (a.block,c)
theorem az{H:aa}{id:Nat}{o:aT}(h:H[id]?=some o):id<H.length:=by
 rcases Nat.lt_or_ge id H.length with h'|h'
 ·exact h'
 ·simp[List.getElem?_eq_none h']at h
theorem aF.refl{H:aa}{φ:bI}{N:Addr→Prop}{w:World}:aF H φ N w H φ N w:=
 ⟨Nat.le_refl _,rfl,rfl,rfl,Nat.le_refl _,fun _ _ _=>rfl,fun id B c hid h _=>⟨id,c,hid,h⟩,fun _ h=>h,
  fun _ o h=>⟨o,h,rfl,Nat.le_refl _,fun _=>⟨rfl,Nat.le_refl _⟩,fun kk es h=>⟨rfl,es,h⟩⟩,fun _ h=> .inl h⟩
theorem aF.trans{H0 H1 H2:aa}{φ0 φ1 φ2:bI}{N0 N1 N2:Addr→Prop}{w0 w1 w2:World}(h:aF H0 φ0 N0 w0 H1 φ1 N1 w1)(g:aF H1 φ1 N1 w1 H2 φ2 N2 w2):
  aF H0 φ0 N0 w0 H2 φ2 N2 w2 where
 len:=Nat.le_trans h.len g.len
 os:=g.os.trans h.os
 tape:=g.tape.trans h.tape
 output:=g.output.trans h.output
 size:=Nat.le_trans h.size g.size
 ev k hk hn:=by
  rw[g.ev k (Nat.lt_of_lt_of_le hk h.size) ?_,h.ev k hk hn]
  intro id c hid hc
  obtain⟨id0,c0,hi0,h0⟩:=h.own id k c hid hc hk
  exact hn id0 c0 hi0 h0
 own id _ c hid hc hB:=by
  obtain⟨id1,c1,hi1,h1⟩:=g.own id _ c hid hc (Nat.lt_of_lt_of_le hB h.size)
  exact h.own id1 _ c1 hi1 h1 hB
 mono a ha:=g.mono a (h.mono a ha)
 c8 id o ho:=by
  obtain⟨o1,ho1,hk1,hv1,hq1,hm1⟩:=h.c8 id o ho
  obtain⟨o2,ho2,hk2,hv2,hq2,hm2⟩:=g.c8 id o1 ho1
  refine⟨o2,ho2,hk2.trans hk1,Nat.le_trans hv1 hv2,fun he=>?_,fun kk es he=>?_⟩
  ·obtain⟨p1,l1⟩:=hq1 (by omega)
   obtain⟨p2,l2⟩:=hq2 (by omega)
   exact⟨p2.trans p1,Nat.le_trans l1 l2⟩
  ·obtain⟨p1,es1,e1⟩:=hm1 kk es he
   obtain⟨p2,es2,e2⟩:=hm2 kk es1 e1
   exact⟨p2.trans p1,es2,e2⟩
 qY a ha:=by
  rcases g.qY a ha with h1|h1|⟨id,c,hid,hp⟩
  ·exact h.qY a h1
  ·exact .inr (.inl (Nat.le_trans h.size h1))
  ·rcases Nat.lt_or_ge a.block w0.heap.size with hl|hl
   ·obtain⟨id0,c0,h2,h3⟩:=h.own id _ c hid hp hl
    exact .inr (.inr ⟨id0,c0,h2,h3⟩)
   ·exact .inr (.inl hl)
theorem aF.cell{H0 H:aa}{φ0 φ:bI}{N0 N:Addr→Prop}{w0 w:World}(hR:Rel H0 φ0 N0 w0)(h:aF H0 φ0 N0 w0 H φ N w):
  ∀a v,N0 a→w0.cell? a=some v→w.cell? a=some v:=by
 intro a v ha hv
 have hb:=World.block_lt_of_cell? w0 a hv
 rw[World.cell?_of_block (h.ev a.block hb fun id c hid hc=>hR.apart a id a.block c ha hid hc rfl)]
 exact hv
theorem RD.since{H0 H:aa}{φ0 φ:bI}{N0 N:Addr→Prop}{w0 w:World}(hR:Rel H0 φ0 N0 w0)(h:aF H0 φ0 N0 w0 H φ N w){x:D}{v:Value}(hx:RD N0 w0 x v):RD N w x v:=
 hx.mono h.mono (h.cell hR)
theorem RA.since{H0 H:aa}{φ0 φ:bI}{N0 N:Addr→Prop}{w0 w:World}(hR:Rel H0 φ0 N0 w0)(h:aF H0 φ0 N0 w0 H φ N w){x:AV}{v:Value}(hx:RA H0 φ0 N0 w0 x v):RA H φ N w x v:=by
 induction hx with
 |top=>exact .top _
 |d hd=>exact .d (hd.since hR h)
 |eS=>exact .eS _
 |ptr id ver i j A o ho hv hp=>
  obtain⟨o',ho',hk,hv',hq,_⟩:=h.c8 id o ho
  refine .ptr id ver i j A o' ho' (Nat.le_trans hv hv') fun he=>?_
  obtain⟨p,_⟩:=hq (by omega)
  obtain⟨B,c,h1,h2⟩:=hp (by omega)
  exact⟨B,c,p.trans h1,by rw[hk];exact h2⟩
 |dt cs ad c hc hd=>exact .dt cs ad c (fun t ht=>⟨h.mono _ (hc t ht).1,h.cell hR _ _ (hc t ht).1 (hc t ht).2⟩) fun t ht=>(hd t ht).since hR h
 |sl id ver off len A l m o ho hv hp=>
  obtain⟨o',ho',hk,hv',hq,_⟩:=h.c8 id o ho
  refine .sl id ver off len A l m o' ho' (Nat.le_trans hv hv') fun he=>?_
  obtain⟨p,hl⟩:=hq (by omega)
  obtain⟨h0,h1,h2⟩:=hp (by omega)
  refine⟨h0,Nat.le_trans h1 hl,?_⟩
  rcases h2 with⟨h3,h4⟩|⟨B,c,h3,h4,h5,h6⟩
  ·exact .inl ⟨p.trans h3,h4⟩
  ·exact .inr ⟨B,c,p.trans h3,h4,by rw[hk];exact h5,h6⟩
 |agg cs vs hl _ ih=>exact .agg cs vs hl ih
 |bz cs vs hl _ ih=>exact .bz cs vs hl ih
 |fn f cs vs hl _ ih=>exact .fn f cs vs hl ih
 |mp id B c kk es ho hp=>
  obtain⟨o',ho',_,_,_,hm⟩:=h.c8 id _ ho
  obtain⟨p,es',rfl⟩:=hm kk es rfl
  exact .mp id B c kk es' ho' (p.trans hp)
 |k8 id B o ho hp=>
  obtain⟨o',ho',_,hv',hq,_⟩:=h.c8 id o ho
  refine .k8 id B o' ho' fun he=>?_
  obtain⟨c,h1⟩:=hp (by omega)
  exact⟨c,(hq (by omega)).1.trans h1⟩
def AV.one:AV→Bool
 | .top| .agg _| .bz _=>false
 |_=>true
theorem RD.one{N:Addr→Prop}{w:World}{x:D}{y:Value}(h:RD N w x y):y.oneCell'=true:=by
 cases h with
 |v _ hx=>exact hx
 |nil=>rfl
 |list=>rfl
theorem RA.one{H:aa}{φ:bI}{N:Addr→Prop}{w:World}{x:AV}{y:Value}(h:RA H φ N w x y)(h1:x.one=true):y.oneCell'=true:=by
 cases h with
 |top=>cases h1
 |d hd=>exact hd.one
 |agg=>cases h1
 |bz=>cases h1
 |_=>rfl
theorem lG.dI{H:aa}{φ:bI}{N:Addr→Prop}{w:World}{id:Nat}{o:aT}(h:lG H φ N w id o){B c:Nat}(hp:φ id=some (B,c)):B<w.heap.size:=by
 cases h with
 |arr e k ver es hk hes h=>
  rcases h with⟨h0,_⟩|⟨B',cap,cur,h1,h2,_⟩
  ·rw[h0]at hp;cases hp
  ·rw[h1]at hp;cases hp
   exact(Array.getElem?_eq_some_iff.1 h2).1
 |box e k ver n cs B' cap cur hk hn hp' hb=>
  rw[hp']at hp;cases hp
  exact(Array.getElem?_eq_some_iff.1 hb).1
 |mp kk es B' cap ents clock hp' hb=>
  rw[hp']at hp;cases hp
  exact(Array.getElem?_eq_some_iff.1 hb).1
 |dead ver hp'=>rw[hp']at hp;cases hp
 |iter m since seen B' cap bm cm kk es hp' hb=>
  rw[hp']at hp;cases hp
  exact(Array.getElem?_eq_some_iff.1 hb).1
 |lp r s B' cap hp' hb=>
  rw[hp']at hp;cases hp
  exact(Array.getElem?_eq_some_iff.1 hb).1
theorem Rel.dI{H:aa}{φ:bI}{N:Addr→Prop}{w:World}(hR:Rel H φ N w){id B c:Nat}(hid:id<H.length)(hp:φ id=some (B,c)):B<w.heap.size:=
 (hR.obj id _ (List.getElem?_eq_getElem hid)).dI hp
theorem Rel.xh{H:aa}{φ:bI}{N:Addr→Prop}{w:World}(hR:Rel H φ N w){a:Addr}(ha:N a):a.block<w.heap.size:=by
 obtain⟨v,hv⟩:=hR.live a ha
 exact World.block_lt_of_cell? w a hv
theorem lG.ev{H H':aa}{φ φ':bI}{N N':Addr→Prop}{w w':World}(hR:Rel H φ N w)(hS:aF H φ N w H' φ' N' w'){id:Nat}{o:aT}
  (hp:φ' id=φ id) (hb:∀B c,φ id=some (B,c)→w'.heap[B]?=w.heap[B]?) (h:lG H φ N w id o):lG H' φ' N' w' id o:=by
 cases h with
 |arr e k ver es hk hes h=>
  refine .arr e k ver es hk hes ?_
  rcases h with⟨h0,h1⟩|⟨B,cap,cur,h1,h2,h3,h4,h5,h6⟩
  ·exact .inl ⟨hp.trans h0,h1⟩
  ·refine .inr ⟨B,cap,cur,hp.trans h1,(hb B cap h1).trans h2,h3,h4,h5,fun i hi j hj=>?_⟩
   obtain⟨c,hc,hd⟩:=h6 i hi j hj
   exact⟨c,hc,hd.since hR hS⟩
 |box e k ver n cs B cap cur hk hn hp' hb' hc hm hs h=>
  refine .box e k ver n cs B cap cur hk hn (hp.trans hp') ((hb B cap hp').trans hb') hc hm hs fun j hj=>?_
  obtain⟨c,hc,hd⟩:=h j hj
  exact⟨c,hc,hd.since hR hS⟩
 |mp kk es B cap ents clock hp' hb' hs hck hbn h=>
  exact .mp kk es B cap ents clock (hp.trans hp') ((hb B cap hp').trans hb') hs hck hbn fun j hj hj2=>⟨(h j hj hj2).1,(h j hj hj2).2.since hR hS⟩
 |dead ver hp'=>exact .dead ver (hp.trans hp')
 |iter m since seen B cap bm cm kk es hp' hb' hm hpm=>
  obtain⟨o',ho',_,_,_,hmm⟩:=hS.c8 m _ hm
  obtain⟨g1,es',rfl⟩:=hmm kk es rfl
  exact .iter m since seen B cap bm cm kk es' (hp.trans hp') ((hb B cap hp').trans hb') ho' (g1.trans hpm)
 |lp r s B cap hp' hb' h=>exact .lp r s B cap (hp.trans hp') ((hb B cap hp').trans hb') fun t=>(h t).since hR hS
theorem aF.drawn{H:aa}{φ:bI}{N:Addr→Prop}{w w':World}(hh:w'.heap=w.heap)(ho:w'.os=w.os)(ht:w'.tape=w.tape)(hu:w'.output=w.output):aF H φ N w H φ N w':=
 ⟨Nat.le_refl _,ho,ht,hu,by rw[hh];exact Nat.le_refl _,fun _ _ _=>by rw[hh],fun id B c hid h _=>⟨id,c,hid,h⟩,fun _ h=>h,
  fun _ o h=>⟨o,h,rfl,Nat.le_refl _,fun _=>⟨rfl,Nat.le_refl _⟩,fun kk es h=>⟨rfl,es,h⟩⟩,fun _ h=> .inl h⟩
theorem Rel.drawn{H:aa}{φ:bI}{N:Addr→Prop}{w w':World}(hR:Rel H φ N w)(hh:w'.heap=w.heap)(ho:w'.os=w.os)(ht:w'.tape=w.tape)(hu:w'.output=w.output):Rel H φ N w' where
 obj id o h:=(hR.obj id o h).ev hR (aF.drawn hh ho ht hu) rfl fun B c _=>by rw[hh]
 inj:=hR.inj
 live a ha:=by obtain⟨v,hv⟩:=hR.live a ha;exact⟨v,by rw[World.cell?_of_block (w:=w) (by rw[hh])];exact hv⟩
 apart:=hR.apart
theorem aF.fixed{H:aa}{φ:bI}{N:Addr→Prop}{w:World}(hR:Rel H φ N w)(o:Obj)(N':Addr→Prop)(hN:∀a,N a→N' a)(hN':∀a,N' a→N a∨a.block=w.heap.size):aF H φ N w H φ N' (w.alloc o):=
 ⟨Nat.le_refl _,rfl,rfl,rfl,by simp,fun k hk _=>Below.heap_alloc w o k hk,fun id B c hid h _=>⟨id,c,hid,h⟩,hN,
  fun _ o h=>⟨o,h,rfl,Nat.le_refl _,fun _=>⟨rfl,Nat.le_refl _⟩,fun kk es h=>⟨rfl,es,h⟩⟩,fun a h=>(hN' a h).imp_right fun e=> .inl (Nat.le_of_eq e.symm)⟩
theorem Rel.fixed{H:aa}{φ:bI}{N:Addr→Prop}{w:World}(hR:Rel H φ N w)(cs:Array Value)(e:TypeId)(fr:Nat×Nat):
  Rel H φ (fun a=>N a∨(a.block=w.heap.size∧a.spot=none∧a.off<cs.size)) (w.alloc (.cells cs e fr))where
 obj id o h:=(hR.obj id o h).ev hR (aF.fixed hR _ _ (fun _ h=> .inl h) fun _ h=>h.imp_right And.left) rfl fun B c hp=>Below.heap_alloc w _ B ((hR.obj id o h).dI hp)
 inj:=hR.inj
 live a ha:=by
  rcases ha with ha|⟨h1,h2,h3⟩
  ·obtain⟨v,hv⟩:=hR.live a ha
   exact⟨v,by rw[World.cell?_of_block (w:=w) (Below.heap_alloc w _ _ (World.block_lt_of_cell? w a hv))];exact hv⟩
  ·refine⟨cs[a.off],?_⟩
   have hg:(w.alloc (.cells cs e fr)).heap[a.block]?=some (.cells cs e fr):=by rw[h1];exact heap_alloc_new w _
   simp[World.cell?,hg,h2,h3]
 apart a id B c ha hid hp:=by
  have hB:=hR.dI hid hp
  rcases ha with ha|⟨h1,_⟩
  ·exact hR.apart a id B c ha hid hp
  ·omega
def bI.put(φ:bI)(id:Nat)(p:Option (Nat×Nat)):bI:=fun i=>if i=id then p else φ i
theorem bI.a9(φ:bI)(id:Nat)(p:Option (Nat×Nat)):φ.put id p id=p:=by simp[bI.put]
theorem bI.bN(φ:bI)(id i:Nat)(p:Option (Nat×Nat))(h:i≠id):φ.put id p i=φ i:=by simp[bI.put,h]
theorem sM{H:aa}{o o':aT}{id:Nat}(h:(H++[o])[id]?=some o'):(H[id]?=some o'∧id<H.length)∨(id=H.length∧o'=o):=by
 rcases Nat.lt_or_ge id H.length with h'|h'
 ·rw[List.getElem?_append_left h']at h;exact .inl ⟨h,h'⟩
 ·rw[List.getElem?_append_right h']at h
  have:id-H.length=0:=by
   rcases Nat.eq_zero_or_pos (id-H.length)with h0|h0
   ·exact h0
   ·rw[List.getElem?_eq_none (by simp only[List.length_singleton];omega)]at h;cases h
  rw[this]at h
  simp at h
  exact .inr ⟨by omega,h.symm⟩
theorem aF.new{H:aa}{φ:bI}{N:Addr→Prop}{w:World}(hR:Rel H φ N w)(ob:Obj)(o:aT)(cap:Nat):
  aF H φ N w (H++[o]) (φ.put H.length (some (w.heap.size,cap))) N (w.alloc ob)where
 len:=by simp
 os:=rfl
 tape:=rfl
 output:=rfl
 size:=by simp
 ev k hk _:=Below.heap_alloc w _ k hk
 own id B c hid hp hB:=by
  by_cases he:id=H.length
  ·subst he;rw[bI.a9]at hp;cases hp;omega
  ·rw[bI.bN _ _ _ _ he]at hp
   exact⟨id,c,by simp at hid;omega,hp⟩
 mono _ h:=h
 c8 id o' h:=⟨o',by rw[List.getElem?_append_left (az h)];exact h,rfl,Nat.le_refl _,
  fun _=>⟨bI.bN _ _ _ _ (Nat.ne_of_lt (az h)),Nat.le_refl _⟩,fun kk es he=>⟨bI.bN _ _ _ _ (Nat.ne_of_lt (az h)),es,he⟩⟩
 qY _ h:= .inl h
theorem Rel.new{H:aa}{φ:bI}{N:Addr→Prop}{w:World}(hR:Rel H φ N w)(ob:Obj)(o:aT)(cap:Nat)
  (hnew:lG (H++[o]) (φ.put H.length (some (w.heap.size,cap))) N (w.alloc ob) H.length o):
  Rel (H++[o]) (φ.put H.length (some (w.heap.size,cap))) N (w.alloc ob)where
 obj id o' h:=by
  rcases sM h with⟨h1,h2⟩|⟨rfl,rfl⟩
  ·exact(hR.obj id o' h1).ev hR (aF.new hR ob o cap) (bI.bN _ _ _ _ (Nat.ne_of_lt h2)) fun B c hp=>Below.heap_alloc w _ B ((hR.obj id o' h1).dI hp)
  ·exact hnew
 inj i j B c c' hi hj h1 h2:=by
  simp at hi hj
  by_cases e1:i=H.length<;>by_cases e2:j=H.length
  ·omega
  ·subst e1
   rw[bI.a9]at h1;cases h1
   rw[bI.bN _ _ _ _ e2]at h2
   exact absurd (hR.dI (by omega) h2) (by omega)
  ·subst e2
   rw[bI.a9]at h2;cases h2
   rw[bI.bN _ _ _ _ e1]at h1
   exact absurd (hR.dI (by omega) h1) (by omega)
  ·rw[bI.bN _ _ _ _ e1]at h1
   rw[bI.bN _ _ _ _ e2]at h2
   exact hR.inj i j B c c' (by omega) (by omega) h1 h2
 live a ha:=by
  obtain⟨v,hv⟩:=hR.live a ha
  exact⟨v,by rw[World.cell?_of_block (w:=w) (Below.heap_alloc w _ _ (World.block_lt_of_cell? w a hv))];exact hv⟩
 apart a id B c ha hid hp:=by
  have hl:=hR.xh ha
  by_cases he:id=H.length
  ·subst he;rw[bI.a9]at hp;cases hp;omega
  ·rw[bI.bN _ _ _ _ he]at hp
   exact hR.apart a id B c ha (by simp at hid;omega) hp
theorem Rel.CV{H:aa}{φ:bI}{N:Addr→Prop}{w:World}(hR:Rel H φ N w)(e:TypeId)(k n:Nat)(cs:List AV)(vs:Array Value)(hk:0<k)(hn:cs.length=n* k)(hm:n≤maxLen)
  (hl:cs.length=vs.size) (h:∀j (h1:j<cs.length) (h2:j<vs.size),RA H φ N w (cs[j]) (vs[j])):
  Rel (H++[.box e k 0 n cs]) (φ.put H.length (some (w.heap.size,n))) N (w.alloc (.cells vs e)):=by
 refine hR.new _ _ _ (.box e k 0 n cs w.heap.size n vs hk hn (bI.a9 _ _ _) (heap_alloc_new w _) (Nat.le_refl _) hm (by omega) fun j hj=>?_)
 exact⟨vs[j]'(by omega),by simp[show j<vs.size by omega],(h j hj (by omega)).since hR (aF.new hR _ _ _)⟩
theorem Rel.CU{H:aa}{φ:bI}{N:Addr→Prop}{w:World}(hR:Rel H φ N w)(e:TypeId)(k:Nat)(es:List (List D))(vs:Array Value)(hk:0<k)(hes:∀c∈es,c.length=k)(hm:es.length≤maxLen)
  (hl:vs.size=es.length* k) (h:∀i (hi:i<es.length) j (hj:j<(es[i]).length),∃c,vs[i* k+j]?=some c∧RD N w ((es[i])[j]) c):
  Rel (H++[.arr e k 0 es]) (φ.put H.length (some (w.heap.size,es.length))) N (w.alloc (.cells vs e)):=by
 refine hR.new _ _ _ (.arr e k 0 es hk hes (.inr ⟨w.heap.size,es.length,vs,bI.a9 _ _ _,heap_alloc_new w _,Nat.le_refl _,hm,hl,fun i hi j hj=>?_⟩))
 obtain⟨c,hc,hd⟩:=h i hi j hj
 exact⟨c,hc,hd.since hR (aF.new hR (.cells vs e) (.arr e k 0 es) es.length)⟩
theorem aF.set{H:aa}{φ:bI}{N:Addr→Prop}{w w':World}{id B c:Nat}{o o':aT}(ho:H[id]?=some o)(hp:φ id=some (B,c))
  (hk:o'.k=o.k) (hv:o'.ver=o.ver) (hl:o'.len=o.len) (hm:∀kk es,o= .mp kk es→∃es',o'= .mp kk es')
  (h1:w'.os=w.os) (h2:w'.tape=w.tape) (h3:w'.output=w.output) (h4:w'.heap.size=w.heap.size) (h5:∀k,k≠B→w'.heap[k]?=w.heap[k]?):
  aF H φ N w (H.set id o') φ N w' where
 len:=by simp
 os:=h1
 tape:=h2
 output:=h3
 size:=by omega
 ev k hk' hn:=h5 k fun e=>hn id c (az ho) (by rw[e];exact hp)
 own id' B' c' hid h _:=⟨id',c',by simpa using hid,h⟩
 mono _ h:=h
 c8 id' o1 h:=by
  by_cases e:id'=id
  ·subst e
   rw[ho]at h;cases h
   exact⟨o',by simp[az ho],hk,by omega,fun _=>⟨rfl,by omega⟩,fun kk es he=>⟨rfl,hm kk es he⟩⟩
  ·exact⟨o1,by rw[List.getElem?_set_ne (Ne.symm e)];exact h,rfl,Nat.le_refl _,fun _=>⟨rfl,Nat.le_refl _⟩,fun kk es he=>⟨rfl,es,he⟩⟩
 qY _ h:= .inl h
theorem Rel.set{H:aa}{φ:bI}{N:Addr→Prop}{w w':World}(hR:Rel H φ N w){id B c:Nat}{o o':aT}(ho:H[id]?=some o)(hp:φ id=some (B,c))
  (hS:aF H φ N w (H.set id o') φ N w') (h5:∀k,k≠B→w'.heap[k]?=w.heap[k]?) (hnew:lG (H.set id o') φ N w' id o'):Rel (H.set id o') φ N w' where
 obj id' o1 h:=by
  by_cases e:id'=id
  ·subst e
   rw[List.getElem?_set_self (az ho)]at h;cases h
   exact hnew
  ·rw[List.getElem?_set_ne (Ne.symm e)]at h
   exact(hR.obj id' o1 h).ev hR hS rfl fun B' c' hp'=>h5 B' fun eb=>e (hR.inj id' id B c' c (az h) (az ho) (by rw[←eb];exact hp') hp)
 inj i j B c c' hi hj h1 h2:=hR.inj i j B c c' (by simpa using hi) (by simpa using hj) h1 h2
 live a ha:=by
  obtain⟨v,hv⟩:=hR.live a ha
  refine⟨v,?_⟩
  rw[World.cell?_of_block (w:=w) (h5 a.block fun e=>hR.apart a id B c ha (az ho) hp e)]
  exact hv
 apart a id' B' c' ha hid hp':=hR.apart a id' B' c' ha (by simpa using hid) hp'
def TI(P:Program)(t:TypeId):Option (Value×Nat×Nat):=(P.info? t).bind fun i=>i.zero.map fun z=>(z,i.size,i.bytes)
theorem TI.info{P:Program}{t:TypeId}{z:Value}{k b:Nat}(h:TI P t=some (z,k,b)):∃i,P.info? t=some i∧i.zero=some z∧i.size=k∧i.bytes=b:=by
 unfold TI at h
 obtain⟨i,hi,h⟩:=Option.bind_eq_some_iff.1 h
 obtain⟨z',hz,h⟩:=Option.map_eq_some_iff.1 h
 cases h
 exact⟨i,hi,hz,rfl,rfl⟩
theorem TI.sizeOf{P:Program}{t:TypeId}{z:Value}{k b:Nat}(h:TI P t=some (z,k,b))(w:World):(sizeOf t).run P w= .ok k w:=by
 obtain⟨i,hi,hz,rfl,rfl⟩:=TI.info h
 simp[Go.sizeOf,typeInfo,hi]
theorem TI.zero{P:Program}{t:TypeId}{z:Value}{k b:Nat}(h:TI P t=some (z,k,b))(w:World):(zeroValue t).run P w= .ok z w:=by
 obtain⟨i,hi,hz,rfl,rfl⟩:=TI.info h
 simp[Go.zeroValue,typeInfo,hi,hz]
def gT(P:Program)(t:TypeId):Option Bool:=(P.underlying t).map fun d=>match d with| .struct _| .array _ _=>true|_=>false
theorem gT.run{P:Program}{t:TypeId}{b:Bool}(h:gT P t=some b)(w:World):(isAgg t).run P w= .ok b w:=by
 unfold gT at h
 obtain⟨d,hd,h⟩:=Option.map_eq_some_iff.1 h
 subst h
 cases d<;>simp[isAgg,run_underlying hd]
theorem eI{k i j n:Nat}(hj:j<k)(hi:i<n):i* k+j<n* k:=by
 have:(i+1)* k≤n* k:=Nat.mul_le_mul_right k hi
 rw[Nat.add_mul]at this
 omega
def gX{α:Type}(l:List α)(j:Nat)(xs:List α):List α:=l.take j++xs++l.drop (j+xs.length)
theorem eT{α:Type}(l:List α)(j:Nat)(xs:List α)(h:j+xs.length≤l.length):(gX l j xs).length=l.length:=by
 simp[gX];omega
theorem jo{α:Type}(l:List α)(j:Nat)(xs:List α)(h:j+xs.length≤l.length)(t:Nat):
  (gX l j xs)[t]?=if t<j then l[t]? else if t<j+xs.length then xs[t-j]? else l[t]?:=by
 unfold gX
 by_cases h1:t<j
 ·rw[if_pos h1,List.append_assoc,List.getElem?_append_left (by simp;omega),List.getElem?_take,if_pos h1]
 ·rw[if_neg h1]
  by_cases h2:t<j+xs.length
  ·rw[if_pos h2,List.append_assoc,List.getElem?_append_right (by simp;omega),List.getElem?_append_left (by simp;omega)]
   congr 1
   simp;omega
  ·rw[if_neg h2,List.getElem?_append_right (by simp;omega),List.getElem?_drop]
   congr 1
   simp;omega
def ah(H:aa)(id ver i j n:Nat):Option (List AV):=
 match H[id]? with
 |some (.arr _ _ v es)=>if v=ver then(match es[i]? with|some c=>if j+n≤c.length then some (((c.drop j).take n).map .d)else none|none=>none)else none
 |some (.box _ k v m cs)=>if v=ver∧i* k+j+n≤cs.length then some ((cs.drop (i* k+j)).take n)else none
 |_=>none
theorem Ic{H:aa}{φ:bI}{N:Addr→Prop}{w:World}(hR:Rel H φ N w){id ver i j n:Nat}{A:Option Addr}(hA:RA H φ N w (.ptr id ver i j) (.pointer A)){cs:List AV}
  (h:ah H id ver i j n=some cs):cs.length=n∧∃B off,A=some ⟨B,off,none⟩∧∀t (ht:t<cs.length),∃c,w.cell? ⟨B,off+t,none⟩=some c∧RA H φ N w (cs[t]) c:=by
 cases hA with
 |ptr _ _ _ _ _ o ho hv hp=>
 unfold ah at h
 rw[ho]at h
 cases o with
 |arr e k v es=>
  simp only at h
  split at h
  ·rename_i hvv
   split at h
   ·rename_i c hc
    split at h
    ·rename_i hjn
     cases h
     obtain⟨B,cp,hph,rfl⟩:=hp (by simp[aT.ver];omega)
     refine⟨by simp;omega,B,_,rfl,fun t ht=>?_⟩
     have hob:=hR.obj id _ ho
     cases hob with
     |arr _ _ _ _ hk hes hb=>
     have hi:i<es.length:=by
      rcases Nat.lt_or_ge i es.length with h'|h'
      ·exact h'
      ·simp[List.getElem?_eq_none h']at hc
     rcases hb with⟨h0,_⟩|⟨B',cap,cur,h1,h2,h3,h4,h5,h6⟩
     ·rw[h0]at hph;cases hph
     ·rw[h1]at hph;cases hph
      simp at ht
      have hce:es[i]=c:=by rw[List.getElem?_eq_getElem hi]at hc;exact Option.some.inj hc
      obtain⟨c',hc',hd'⟩:=h6 i hi (j+t) (by rw[hce];omega)
      refine⟨c',?_,?_⟩
      ·simp only[aT.k,World.cell?,h2]
       simpa[Nat.add_assoc]using hc'
      ·simp only[hce]at hd'
       simp only[List.getElem_map,List.getElem_take,List.getElem_drop]
       exact .d hd'
    ·cases h
   ·cases h
  ·cases h
 |box e k v m bs=>
  simp only at h
  split at h
  ·rename_i hvv
   cases h
   obtain⟨B,cp,hph,rfl⟩:=hp (by simp[aT.ver];omega)
   refine⟨by simp;omega,B,_,rfl,fun t ht=>?_⟩
   have hob:=hR.obj id _ ho
   cases hob with
   |box _ _ _ _ _ B' cap cur hk hn hp' hb hc hm hs hcell=>
   rw[hp']at hph;cases hph
   simp at ht
   obtain⟨c',hc',hd'⟩:=hcell (i* k+j+t) (by omega)
   refine⟨c',?_,?_⟩
   ·simp only[aT.k,World.cell?,hb]
    simpa using hc'
   ·simp only[List.getElem_take,List.getElem_drop]
    exact hd'
  ·cases h
 |mp kk es=>cases h
 |dead v=>cases h
 |iter m since seen=>cases h
 |lp r s=>cases h
def AV.toD?:AV→Option D
 | .d x=>some x
 |_=>none
def pz:List AV→Option (List D)
 |[]=>some []
 |x::xs=>match x.toD?,pz xs with
  |some y,some ys=>some (y::ys)
  |_,_=>none
theorem kY:∀{xs:List AV} {ys:List D},pz xs=some ys→xs=ys.map .d
 |[],ys,h=>by cases h;rfl
 |x::xs,ys,h=>by
  unfold pz at h
  cases hx:x.toD? with
  |none=>simp[hx]at h
  |some y=>
   cases hxs:pz xs with
   |none=>simp[hx,hxs]at h
   |some zs=>
    simp[hx,hxs]at h
    subst h
    rw[kY hxs]
    cases x<;>simp[AV.toD?]at hx
    subst hx
    rfl
def au(H:aa)(id ver i j:Nat)(cs:List AV):Option aa:=
 match H[id]? with
 |some (.arr e k v es)=>if v=ver then(match es[i]?,pz cs with|some c,some ds=>if j+ds.length≤c.length then some (H.set id (.arr e k v (es.set i (gX c j ds))))else none|_,_=>none)else none
 |some (.box e k v m bs)=>if v=ver∧i* k+j+cs.length≤bs.length then some (H.set id (.box e k v m (gX bs (i* k+j) cs)))else none
 |_=>none
theorem kN(cur:Array Value)(off:Nat)(vs:List Value)(h:off+vs.length≤cur.size)(t:Nat):
  (cur.toList.take off++vs++cur.toList.drop (off+vs.length)).toArray[t]?=if t<off then cur[t]? else if t<off+vs.length then vs[t-off]? else cur[t]?:=by
 have:=jo cur.toList off vs (by simpa using h) t
 simpa[gX]using this
theorem DU{P:Program}{H H':aa}{φ:bI}{N:Addr→Prop}{w:World}(hR:Rel H φ N w){id ver i j:Nat}{A:Option Addr}(hA:RA H φ N w (.ptr id ver i j) (.pointer A)){cs:List AV}{vs:List Value}
  (hl:cs.length=vs.length) (hcs:∀t (h1:t<cs.length) (h2:t<vs.length),RA H φ N w (cs[t]) (vs[t])) (h1:∀v∈vs,v.oneCell'=true)
  (h:au H id ver i j cs=some H'):∃a w',A=some a∧(storeCells a vs 0).run P w= .ok () w'∧Rel H' φ N w'∧aF H φ N w H' φ N w':=by
 cases hA with
 |ptr _ _ _ _ _ o ho hv hp=>
 unfold au at h
 rw[ho]at h
 cases o with
 |arr e k v es=>
  simp only at h
  split at h
  ·rename_i hvv
   split at h
   ·rename_i c ds hc hds
    split at h
    ·rename_i hjn
     cases h
     obtain⟨B,cp,hph,rfl⟩:=hp (by simp[aT.ver];omega)
     have hob:=hR.obj id _ ho
     cases hob with
     |arr _ _ _ _ hk hes hb=>
     have hi:i<es.length:=by
      rcases Nat.lt_or_ge i es.length with h'|h'
      ·exact h'
      ·simp[List.getElem?_eq_none h']at hc
     have hce:es[i]=c:=by rw[List.getElem?_eq_getElem hi]at hc;exact Option.some.inj hc
     have hck:c.length=k:=by rw[←hce];exact hes _ (List.getElem_mem hi)
     have hdl:ds.length=vs.length:=by rw[←hl,kY hds];simp
     rcases hb with⟨h0,_⟩|⟨B',cap,cur,e1,e2,e3,e4,e5,e6⟩
     ·rw[h0]at hph;cases hph
     ·have hpB:=e1
      rw[e1]at hph;cases hph
      have hroom:i* k+j+vs.length≤cur.size:=by
       have:=Nat.mul_le_mul_right k (show i+1≤cp by omega)
       rw[Nat.add_mul]at this
       omega
      refine⟨_,_,rfl,run_storeCells_at (P:=P) B (i* k+j) e vs 0 cur w e2 (by omega) h1,?_⟩
      simp only[Nat.add_zero]
      generalize hnew:(cur.toList.take (i* k+j)++vs++cur.toList.drop (i* k+j+vs.length)).toArray=cur'
      have hS:aF H φ N w (H.set id (.arr e k v (es.set i (gX c j ds)))) φ N (w.setRow B cur'):=
       aF.set ho hpB rfl rfl (by simp[aT.len]) (fun kk es he=>by cases he) (by simp) (by simp) (by simp) (by simp) (fun k hk=>setRow_other w B k cur' hk)
      refine⟨hR.set ho hpB hS (fun k hk=>setRow_other w B k cur' hk) ?_,hS⟩
      refine .arr e k v _ hk ?_ (.inr ⟨B,cp,cur',hpB,setRow_heap w B cur cur' e (0,0) e2,by simpa using e3,e4,?_,?_⟩)
      ·intro x hx
       rcases List.mem_or_eq_of_mem_set hx with hx|rfl
       ·exact hes x hx
       ·rw[eT _ _ _ (by omega)];exact hck
      ·rw[←hnew,←e5];simp;omega
      ·intro i' hi' j' hj'
       have hget:=kN cur (i* k+j) vs hroom (i'* k+j')
       rw[hnew]at hget
       simp only[List.length_set]at hi'
       by_cases ei:i'=i
       ·subst ei
        simp only[List.getElem_set_self]at hj'⊢
        rw[eT _ _ _ (by omega)]at hj'
        have hsp:=jo c j ds hjn j'
        rw[List.getElem?_eq_getElem (by rw[eT _ _ _ (by omega)];exact hj')]at hsp
        by_cases a1:j'<j
        ·rw[if_pos a1,List.getElem?_eq_getElem hj']at hsp
         rw[if_pos (by omega)]at hget
         obtain⟨c',hc',hd'⟩:=e6 i' hi j' (by rw[hce];exact hj')
         refine⟨c',hget.trans hc',?_⟩
         rw[Option.some.inj hsp]
         simp only[hce]at hd'
         exact hd'.since hR hS
        ·rw[if_neg a1]at hsp
         rw[if_neg (by omega)]at hget
         by_cases a2:j'<j+ds.length
         ·rw[if_pos a2,List.getElem?_eq_getElem (show j'-j<ds.length by omega)]at hsp
          rw[if_pos (by omega)]at hget
          have hq:i'* k+j'-(i'* k+j)=j'-j:=by omega
          rw[hq,List.getElem?_eq_getElem (by omega)]at hget
          refine⟨_,hget,?_⟩
          rw[Option.some.inj hsp]
          have:=hcs (j'-j) (by omega) (by omega)
          have hcd:cs[j'-j]'(by omega)= .d (ds[j'-j]'(by omega)):=by
           have:=kY hds
           simp[this]
          rw[hcd]at this
          cases this with
          |d hd=>exact hd.since hR hS
         ·rw[if_neg a2,List.getElem?_eq_getElem hj']at hsp
          rw[if_neg (by omega)]at hget
          obtain⟨c',hc',hd'⟩:=e6 i' hi j' (by rw[hce];exact hj')
          refine⟨c',hget.trans hc',?_⟩
          rw[Option.some.inj hsp]
          simp only[hce]at hd'
          exact hd'.since hR hS
       ·rw[List.getElem_set_ne (Ne.symm ei)]at hj'
        have hk':(es[i']).length=k:=hes _ (List.getElem_mem hi')
        obtain⟨c',hc',hd'⟩:=e6 i' hi' j' hj'
        have hout:i'* k+j'<i* k+j∨i* k+j+vs.length≤i'* k+j':=by
         rcases Nat.lt_or_ge i' i with hlt|hge
         ·have:=Nat.mul_le_mul_right k (show i'+1≤i by omega)
          rw[Nat.add_mul]at this
          omega
         ·have:=Nat.mul_le_mul_right k (show i+1≤i' by omega)
          rw[Nat.add_mul]at this
          omega
        refine⟨c',?_,?_⟩
        ·rw[hget]
         rcases hout with ho'|ho'
         ·rw[if_pos ho'];exact hc'
         ·rw[if_neg (by omega),if_neg (by omega)];exact hc'
        ·simp only[List.getElem_set_ne (Ne.symm ei)]
         exact hd'.since hR hS
    ·cases h
   ·cases h
  ·cases h
 |box e k v m bs=>
  simp only at h
  split at h
  ·rename_i hvv
   cases h
   obtain⟨B,cp,hph,rfl⟩:=hp (by simp[aT.ver];omega)
   have hob:=hR.obj id _ ho
   cases hob with
   |box _ _ _ _ _ B' cap cur hk hn hp' hb hc hm hs hcell=>
   have hpB:=hp'
   rw[hp']at hph;cases hph
   have hcap:=Nat.mul_le_mul_right k hc
   have hroom:i* k+j+vs.length≤cur.size:=by omega
   refine⟨_,_,rfl,run_storeCells_at (P:=P) B (i* k+j) e vs 0 cur w hb (by omega) h1,?_⟩
   simp only[Nat.add_zero]
   generalize hnew:(cur.toList.take (i* k+j)++vs++cur.toList.drop (i* k+j+vs.length)).toArray=cur'
   have hS:aF H φ N w (H.set id (.box e k v m (gX bs (i* k+j) cs))) φ N (w.setRow B cur'):=
    aF.set ho hpB rfl rfl rfl (fun kk es he=>by cases he) (by simp) (by simp) (by simp) (by simp) (fun k hk=>setRow_other w B k cur' hk)
   refine⟨hR.set ho hpB hS (fun k hk=>setRow_other w B k cur' hk) ?_,hS⟩
   refine .box e k v m _ B cp cur' hk (by rw[eT _ _ _ (by omega)];exact hn) hpB (setRow_heap w B cur cur' e (0,0) hb) hc hm (by rw[←hnew,←hs];simp;omega) ?_
   intro t ht
   have hget:=kN cur (i* k+j) vs hroom t
   rw[hnew]at hget
   have hsp:=jo bs (i* k+j) cs hvv.2 t
   rw[List.getElem?_eq_getElem ht]at hsp
   rw[eT _ _ _ (by omega)]at ht
   by_cases a1:t<i* k+j
   ·rw[if_pos a1,List.getElem?_eq_getElem ht]at hsp
    rw[if_pos a1]at hget
    obtain⟨c',hc',hd'⟩:=hcell t ht
    exact⟨c',hget.trans hc',by rw[Option.some.inj hsp];exact hd'.since hR hS⟩
   ·rw[if_neg a1]at hsp hget
    by_cases a2:t<i* k+j+cs.length
    ·rw[if_pos a2,List.getElem?_eq_getElem (by omega)]at hsp
     rw[if_pos (by omega),List.getElem?_eq_getElem (by omega)]at hget
     exact⟨_,hget,by rw[Option.some.inj hsp];exact(hcs _ (by omega) (by omega)).since hR hS⟩
    ·rw[if_neg a2,List.getElem?_eq_getElem ht]at hsp
     rw[if_neg (by omega)]at hget
     obtain⟨c',hc',hd'⟩:=hcell t ht
     exact⟨c',hget.trans hc',by rw[Option.some.inj hsp];exact hd'.since hR hS⟩
  ·cases h
 |mp kk es=>cases h
 |dead v=>cases h
 |iter m since seen=>cases h
 |lp r s=>cases h
def cD:Value→AV
 | .agg cs=>if cs.all Value.oneCell' then .agg (cs.toList.map fun c=> .d (.v c))else .top
 | .tuple _=> .top
 |x=> .d (.v x)
theorem fL{H:aa}{φ:bI}{N:Addr→Prop}{w:World}(x:Value):RA H φ N w (cD x) x:=by
 unfold cD
 split
 ·split
  ·rename_i cs hc
   refine .agg _ _ (by simp) fun i h1 h2=>?_
   simp only[List.getElem_map,Array.getElem_toList]
   rw[Array.all_eq_true]at hc
   exact .d (.v _ (hc i h2))
  ·exact .top _
 ·exact .top _
 ·rename_i h1 h2
  refine .d (.v _ ?_)
  cases x<;>first|rfl|exact absurd rfl (h1 _)|exact absurd rfl (h2 _)
def ao(s:Nat→AV):Operand→AV
 | .tmp t=>s t
 | .const v=>cD v
 | .global _=> .top
 | .func f=> .fn f []
def cO(H:aa)(φ:bI)(N:Addr→Prop)(w:World)(s:Nat→AV)(a:Act):Prop:=∀t,RA H φ N w (s t) (a.tmps.getD t undef)
theorem aB{H:aa}{φ:bI}{N:Addr→Prop}{w:World}{s:Nat→AV}{a:Act}(h:cO H φ N w s a)(x:Operand):RA H φ N w (ao s x) (a.eval x):=by
 cases x with
 |tmp t=>exact h t
 |const v=>exact fL v
 |global g=>exact .top _
 |func f=>exact .fn f [] #[] rfl (fun i h1=>by simp at h1)
theorem RA.closed{H:aa}{φ:bI}{N:Addr→Prop}{w:World}{x v:Value}(h:RA H φ N w (.d (.v x)) v):v=x:=by
 cases h with
 |d h=>cases h with|v=>rfl
def cellsOf:AV→Option (List AV)
 | .agg cs=>if cs.all AV.one then some cs else none
 | .top=>none
 | .bz _=>none
 |x=>some [x]
theorem nL{H:aa}{φ:bI}{N:Addr→Prop}{w:World}{x:AV}{v:Value}(h:RA H φ N w x v){cs:List AV}(hc:cellsOf x=some cs):
  cs.length=v.cells.size∧(∀i (h1:i<cs.length) (h2:i<v.cells.size),RA H φ N w (cs[i]) (v.cells[i]))∧∀u∈v.cells.toList,u.oneCell'=true:=by
 have single:∀(y:AV) (u:Value),RA H φ N w y u→y.one=true→u.cells=#[u]→cellsOf y=some [y]→cs=[y]→x=y→v=u→
   cs.length=v.cells.size∧(∀i (h1:i<cs.length) (h2:i<v.cells.size),RA H φ N w (cs[i]) (v.cells[i]))∧∀u∈v.cells.toList,u.oneCell'=true:=by
  intro y u hy h1 hu _ e1 e2 e3
  subst e1 e2 e3
  refine⟨by simp[hu],fun i h1 h2=>?_,fun z hz=>?_⟩
  ·simp only[List.length_singleton]at h1
   have:i=0:=by omega
   subst this
   simp only[hu]
   exact hy
  ·simp only[hu]at hz
   simp at hz
   subst hz
   exact hy.one h1
 have one:x.one=true→cs=[x]→v.cells=#[v]→
   cs.length=v.cells.size∧(∀i (h1:i<cs.length) (h2:i<v.cells.size),RA H φ N w (cs[i]) (v.cells[i]))∧∀u∈v.cells.toList,u.oneCell'=true:=by
  intro h1 e hv
  subst e
  refine⟨by simp[hv],fun i h1 h2=>?_,fun z hz=>?_⟩
  ·simp only[List.length_singleton]at h1
   have:i=0:=by omega
   subst this
   simp only[hv]
   exact h
  ·simp only[hv]at hz
   simp at hz
   subst hz
   exact h.one h1
 have hv:∀u:Value,u.oneCell'=true→u.cells=#[u]:=by intro u hu;cases u<;>first|rfl|cases hu
 cases x with
 |top=>cases hc
 |bz vs=>cases hc
 |agg xs=>
  simp only[cellsOf]at hc
  split at hc
  ·rename_i ha
   cases hc
   cases h with
   |agg _ vs hl hh=>
    refine⟨hl,hh,fun u hu=>?_⟩
    obtain⟨i,hi,rfl⟩:=List.mem_iff_getElem.1 hu
    rw[List.all_eq_true]at ha
    simp only[Value.cells,Array.length_toList]at hi
    simp only[Value.cells,Array.getElem_toList]
    exact(hh i (by omega) hi).one (ha _ (List.getElem_mem _))
  ·cases hc
 |d _=>cases hc;exact one rfl rfl (hv _ (h.one rfl))
 |eS=>cases hc;exact one rfl rfl (hv _ (h.one rfl))
 |ptr _ _ _ _=>cases hc;exact one rfl rfl (hv _ (h.one rfl))
 |dt _=>cases hc;exact one rfl rfl (hv _ (h.one rfl))
 |sl _ _ _ _=>cases hc;exact one rfl rfl (hv _ (h.one rfl))
 |fn _ _=>cases hc;exact one rfl rfl (hv _ (h.one rfl))
 |mp _=>cases hc;exact one rfl rfl (hv _ (h.one rfl))
 |k8 _=>cases hc;exact one rfl rfl (hv _ (h.one rfl))
def dd(P:Program)(o:Oper)(a:Act)(w:World)(H:aa)(φ:bI)(N:Addr→Prop)(r:AV)(H':aa):Prop:=
 ∃x w' φ' N',((execOp a.eval o).run P w= .ok (.value x) w'∨((execOp a.eval o).run P w= .ok .skip w'∧x=undef))∧
  Rel H' φ' N' w'∧aF H φ N w H' φ' N' w'∧RA H' φ' N' w' r x
section
variable {P:Program} {o:Oper} {a:Act} {w:World} {H:aa} {φ:bI} {N:Addr→Prop} {s:Nat→AV}
theorem dd.same(hR:Rel H φ N w){r:AV}{x:Value}(hx:RA H φ N w r x)(h:(execOp a.eval o).run P w= .ok (.value x) w):dd P o a w H φ N r H:=
 ⟨x,w,φ,N,.inl h,hR,aF.refl,hx⟩
theorem Dr(hR:Rel H φ N w)(hT:cO H φ N w s a)(x:Operand)(ho:o.op= .move x∨o.op= .assign x):dd P o a w H φ N (ao s x) H:=by
 refine .same hR (aB hT x) ?_
 rcases ho with ho|ho<;>simp[execOp,ho]
theorem IU(hR:Rel H φ N w)(hT:cO H φ N w s a)(c x y:Operand)(ho:o.op= .pick c x y)(t:Bool)(hc:ao s c= .d (.v (.bool t))):
  dd P o a w H φ N (if t then ao s x else ao s y) H:=by
 have h:=aB hT c
 rw[hc]at h
 have hv:=h.closed
 refine dd.same (x:=if t then a.eval x else a.eval y) hR (by cases t<;>exact aB hT _) ?_
 cases t<;>simp[execOp,ho,asBool,hv]
def cL(cs:Array Value):List AV:=cs.toList.map fun c=> .d (.v c)
theorem HL(hR:Rel H φ N w)(e:TypeId)(z:Value)(k b:Nat)(ho:o.op= .alloc e)(hi:TI P e=some (z,k,b))(hk:0<k)(hz:z.cells.size=k)(h1:z.cells.all Value.oneCell'=true):
  dd P o a w H φ N (.ptr H.length 0 0 0) (H++[.box e k 0 1 (cL z.cells)]):=by
 refine⟨.pointer (some ⟨w.heap.size,0,none⟩),w.alloc (.cells z.cells e),_,N,.inl ?_,hR.CV e k 1 (cL z.cells) z.cells hk (by simp[cL,hz]) (by decide) (by simp[cL]) (fun j h2 h3=>?_),aF.new hR _ _ _,?_⟩
 ·simp only[execOp,ho,Instr.alloc,Sem.run_bind,TI.zero hi,Result.andThen_ok,newVar,newRow,newObj]
  rfl
 ·simp only[cL,List.getElem_map,Array.getElem_toList]
  rw[Array.all_eq_true]at h1
  exact .d (.v _ (h1 j h3))
 ·refine .ptr _ _ _ _ _ (.box e k 0 1 (cL z.cells)) (by simp) (Nat.le_refl _) fun _=>⟨w.heap.size,1,bI.a9 _ _ _,by simp⟩
theorem zJ(hR:Rel H φ N w)(e:TypeId)(z:Value)(k b:Nat)(ho:o.op= .alloc e)(hi:TI P e=some (z,k,b))(hk:0<k)(hz:z.cells.size=k)(h1:z.cells.all Value.oneCell'=true)(id:Nat)(e':TypeId)(hob:H[id]?=some (.arr e' k 0 [])):
  dd P o a w H φ N (.ptr id 1 0 0) (H.set id (.box e k 1 1 (cL z.cells))):=by
 have hid:=az hob
 have hoth:∀j,j≠id→φ.put id (some (w.heap.size,1)) j=φ j:=fun j hj=>bI.bN _ _ _ _ hj
 have hS:aF H φ N w (H.set id (.box e k 1 1 (cL z.cells))) (φ.put id (some (w.heap.size,1))) N (w.alloc (.cells z.cells e)):=by
  refine⟨by simp,rfl,rfl,rfl,by simp,fun j hj _=>Below.heap_alloc w _ j hj,fun j B c hj hp hB=>?_,fun _ h=>h,fun j o' hj=>?_,fun _ h=> .inl h⟩
  ·by_cases hji:j=id
   ·subst hji;rw[bI.a9]at hp;cases hp;omega
   ·rw[hoth j hji]at hp
    exact⟨j,c,by simpa using hj,hp⟩
  ·by_cases hji:j=id
   ·subst hji
    rw[hob]at hj;cases hj
    exact⟨.box e k 1 1 (cL z.cells),by simp[hid],rfl,Nat.le_succ _,fun h=>by simp[aT.ver]at h,fun kk es h=>by cases h⟩
   ·exact⟨o',by rw[List.getElem?_set_ne (Ne.symm hji)];exact hj,rfl,Nat.le_refl _,fun _=>⟨hoth j hji,Nat.le_refl _⟩,fun kk es h=>⟨hoth j hji,es,h⟩⟩
 refine⟨.pointer (some ⟨w.heap.size,0,none⟩),w.alloc (.cells z.cells e),_,N,.inl ?_,⟨fun j o' hj=>?_,fun i j B c c' hi hj hpi hpj=>?_,fun ad hd=>?_,fun ad j B c hd hj hp=>?_⟩,hS,?_⟩
 ·simp only[execOp,ho,Instr.alloc,Sem.run_bind,TI.zero hi,Result.andThen_ok,newVar,newRow,newObj]
  rfl
 ·by_cases hji:j=id
  ·subst hji
   rw[List.getElem?_set_self hid]at hj;cases hj
   refine .box e k 1 1 _ w.heap.size 1 z.cells hk (by simp[cL,hz]) (bI.a9 _ _ _) (heap_alloc_new w _) (Nat.le_refl _) (by decide) (by omega) fun i hi=>?_
   have hi':i<z.cells.size:=by simpa[cL]using hi
   refine⟨z.cells[i],by simp[hi'],?_⟩
   simp only[cL,List.getElem_map,Array.getElem_toList]
   rw[Array.all_eq_true]at h1
   exact .d (.v _ (h1 i hi'))
  ·rw[List.getElem?_set_ne (Ne.symm hji)]at hj
   exact(hR.obj j o' hj).ev hR hS (hoth j hji) fun B c hp=>Below.heap_alloc w _ B ((hR.obj j o' hj).dI hp)
 ·simp only[List.length_set]at hi hj
  by_cases e1:i=id<;>by_cases e2:j=id
  ·omega
  ·subst e1
   rw[bI.a9]at hpi;cases hpi
   rw[hoth j e2]at hpj
   exact absurd (hR.dI hj hpj) (by omega)
  ·subst e2
   rw[bI.a9]at hpj;cases hpj
   rw[hoth i e1]at hpi
   exact absurd (hR.dI hi hpi) (by omega)
  ·rw[hoth i e1]at hpi
   rw[hoth j e2]at hpj
   exact hR.inj i j B c c' hi hj hpi hpj
 ·obtain⟨v,hv⟩:=hR.live ad hd
  exact⟨v,by rw[World.cell?_of_block (w:=w) (Below.heap_alloc w _ _ (World.block_lt_of_cell? w ad hv))];exact hv⟩
 ·simp only[List.length_set]at hj
  by_cases hji:j=id
  ·subst hji
   rw[bI.a9]at hp;cases hp
   have:=hR.xh hd
   omega
  ·rw[hoth j hji]at hp
   exact hR.apart ad j B c hd hj hp
 ·exact .ptr _ _ _ _ _ (.box e k 1 1 (cL z.cells)) (by simp[hid]) (Nat.le_refl _) fun _=>⟨w.heap.size,1,bI.a9 _ _ _,by simp⟩
theorem Kh(hR:Rel H φ N w)(hT:cO H φ N w s a)(e:TypeId)(x:Operand)(ho:o.op= .box e x)(cs:List AV)(hc:cellsOf (ao s x)=some cs)(hk:0<cs.length):
  dd P o a w H φ N (.ptr H.length 0 0 0) (H++[.box e cs.length 0 1 cs]):=by
 obtain⟨hl,hh,h1⟩:=nL (aB hT x) hc
 refine⟨.pointer (some ⟨w.heap.size,0,none⟩),w.alloc (.cells (a.eval x).cells e),_,N,.inl ?_,hR.CV e cs.length 1 cs (a.eval x).cells hk (by simp) (by decide) hl hh,aF.new hR _ _ _,?_⟩
 ·simp only[execOp,ho,Instr.box,Sem.run_bind,newVar,newRow,newObj]
  rfl
 ·refine .ptr _ _ _ _ _ (.box e cs.length 0 1 cs) (by simp) (Nat.le_refl _) fun _=>⟨w.heap.size,1,bI.a9 _ _ _,by simp⟩
def gD(H:aa)(n:Nat):AV→Option (List AV)
 | .ptr id ver i j=>ah H id ver i j n
 | .dt cs=>if n≤cs.length then some ((cs.take n).map .d)else none
 |_=>none
theorem add_plain(g o j:Nat):(⟨g,o,none⟩:Addr).add j=⟨g,o+j,none⟩:=by unfold Addr.add;split<;>simp_all
theorem oO(hR:Rel H φ N w){x:AV}{v:Value}(hx:RA H φ N w x v){n:Nat}{cs:List AV}(h:gD H n x=some cs):
  cs.length=n∧∃ad,v= .pointer (some ad)∧∀t (ht:t<cs.length),∃c,w.cell? (ad.add t)=some c∧RA H φ N w (cs[t]) c:=by
 cases x with
 |ptr id ver i j=>
  cases hx with
  |ptr _ _ _ _ A o ho hv hp=>
  obtain⟨hl,B,off,rfl,hh⟩:=Ic hR (.ptr id ver i j A o ho hv hp) h
  exact⟨hl,_,rfl,fun t ht=>by rw[add_plain];exact hh t ht⟩
 |dt ds=>
  simp only[gD]at h
  split at h
  ·cases h
   cases hx with
   |dt _ ad c hc hd=>
   refine⟨by simp;omega,ad,rfl,fun t ht=>?_⟩
   simp at ht
   exact⟨c t,(hc t (by omega)).2,by simp only[List.getElem_map,List.getElem_take];exact .d (hd t (by omega))⟩
  ·cases h
 |_=>cases h
theorem yo(hR:Rel H φ N w)(hT:cO H φ N w s a)(t:TypeId)(x:Operand)(ho:o.op= .load t x)(hg:gT P t=some true)(z:Value)(k b:Nat)(hi:TI P t=some (z,k,b))
  (cs:List AV) (h:gD H k (ao s x)=some cs):dd P o a w H φ N (.agg cs) H:=by
 obtain⟨hl,ad,hv,hh⟩:=oO hR (aB hT x) h
 let f:Nat→Value:=fun t=>if ht:t<cs.length then(hh t ht).choose else undef
 have hf:∀t (ht:t<cs.length),w.cell? (ad.add t)=some (f t)∧RA H φ N w (cs[t]) (f t):=fun t ht=>by
  simp only[f,ht,dif_pos];exact(hh t ht).choose_spec
 have hrun:=run_loadCells (P:=P) w ad k f fun j hj=>(hf j (by omega)).1
 refine .same hR (x:= .agg ((List.range k).map f).toArray) (.agg _ _ (by simp[hl]) fun i h1 h2=>?_) ?_
 ·simp only[List.getElem_toArray,List.getElem_map,List.getElem_range]
  exact(hf i h1).2
 ·simp only[execOp,ho,hv,Instr.loadAt,Instr.sureAddr,Sem.run_bind,Sem.run_pure,Result.andThen_ok,loadVar,gT.run hg,TI.sizeOf hi,if_true,hrun]
theorem yf(hR:Rel H φ N w)(hT:cO H φ N w s a)(t:TypeId)(x:Operand)(ho:o.op= .load t x)(hg:gT P t=some false)
  (c:AV) (h:gD H 1 (ao s x)=some [c]):dd P o a w H φ N c H:=by
 obtain⟨hl,ad,hv,hh⟩:=oO hR (aB hT x) h
 obtain⟨u,hu,hr⟩:=hh 0 (by simp)
 refine .same hR hr ?_
 have hu':w.cell? ad=some u:=by simpa[Addr.add]using hu
 simp only[execOp,ho,hv,Instr.loadAt,Instr.sureAddr,Sem.run_bind,Sem.run_pure,Result.andThen_ok,loadVar,gT.run hg,Bool.false_eq_true,if_false,run_load,hu']
def sd(H:aa)(cs:List AV):AV→Option aa
 | .ptr id ver i j=>au H id ver i j cs
 |_=>none
theorem G3(hR:Rel H φ N w)(hT:cO H φ N w s a)(t:TypeId)(x y:Operand)(ho:o.op= .store t x y)(z:Value)(k b:Nat)(hi:TI P t=some (z,k,b))
  (cs:List AV) (hc:cellsOf (ao s y)=some cs) (hk:cs.length=k) (H':aa) (h:sd H cs (ao s x)=some H'):dd P o a w H φ N .top H':=by
 obtain⟨hl,hh,h1⟩:=nL (aB hT y) hc
 have hx:=aB hT x
 cases hp:ao s x with
 |ptr id ver i j=>
  rw[hp]at h hx
  generalize hv:a.eval x=v at hx
  cases hx with
  |ptr _ _ _ _ A ob hob hv' hq=>
  obtain⟨ad,w',rfl,hrun,hR',hS⟩:=DU (P:=P) hR (.ptr id ver i j A ob hob hv' hq) (cs:=cs) (vs:=(a.eval y).cells.toList) (by simpa using hl) (fun t h2 h3=>by
   simp only[Array.getElem_toList];exact hh t h2 (by simpa using h3)) h1 h
  refine⟨undef,w',φ,N,.inr ⟨?_,rfl⟩,hR',hS,.top _⟩
  simp only[execOp,ho,hv,Instr.storeAt,Instr.sureAddr,Sem.run_bind,Sem.run_pure,Result.andThen_ok,storeVar,TI.sizeOf hi]
  rw[if_neg (by simp;omega)]
  simp only[Result.andThen_ok,hrun]
 |_=>rw[hp]at h;cases h
def FO(P:Program)(t:TypeId)(f:Nat):Option (Nat×TypeId):=
 match P.underlying t with
 |some (.struct fields)=>(fields[f]?).map fun x=>(x.offset,x.type)
 |_=>none
theorem FO.get{t:TypeId}{f off:Nat}{ft:TypeId}(h:FO P t f=some (off,ft)):∃fields fd,P.underlying t=some (.struct fields)∧fields[f]?=some fd∧fd.offset=off∧fd.type=ft:=by
 unfold FO at h
 split at h
 ·rename_i fields hu
  obtain⟨fd,hfd,h⟩:=Option.map_eq_some_iff.1 h
  cases h
  exact⟨fields,fd,hu,hfd,rfl,rfl⟩
 ·cases h
def jA(off:Nat):AV→Option AV
 | .ptr id ver i j=>some (.ptr id ver i (j+off))
 | .dt cs=>if off≤cs.length then some (.dt (cs.drop off))else none
 |_=>none
theorem add_add(ad:Addr)(m n:Nat):(ad.add m).add n=ad.add (m+n):=by
 unfold Addr.add
 by_cases hm:m=0
 ·subst hm;simp
 ·by_cases hn:n=0
  ·subst hn;simp
  ·simp[hm,hn,Nat.add_assoc]
theorem At{off:Nat}{x y:AV}{v:Value}(hx:RA H φ N w x v)(h:jA off x=some y)(hfresh:∀id ver i j,x= .ptr id ver i j→∃ad,v= .pointer (some ad)):
  ∃ad,v= .pointer (some ad)∧RA H φ N w y (.pointer (some (ad.add off))):=by
 cases x with
 |ptr id ver i j=>
  cases h
  obtain⟨ad,rfl⟩:=hfresh id ver i j rfl
  refine⟨ad,rfl,?_⟩
  cases hx with
  |ptr _ _ _ _ _ o ho hv hp=>
  refine .ptr _ _ _ _ _ o ho hv fun he=>?_
  obtain⟨B,c,h1,h2⟩:=hp he
  cases h2
  exact⟨B,c,h1,by rw[add_plain];simp[Nat.add_assoc]⟩
 |dt cs=>
  simp only[jA]at h
  split at h
  ·cases h
   cases hx with
   |dt _ ad c hc hd=>
   refine⟨ad,rfl,.dt _ _ (fun t=>c (off+t)) (fun t ht=>?_) fun t ht=>?_⟩
   ·rw[add_add]
    simp at ht
    exact hc (off+t) (by omega)
   ·simp only[List.getElem_drop]
    simp at ht
    exact hd _ (by omega)
  ·cases h
 |_=>cases h
def fresh(H:aa):AV→Bool
 | .ptr id ver _ _=>match H[id]? with|some o=>o.ver==ver&&o.live|none=>false
 |_=>true
theorem sT{x:AV}{v:Value}(hx:RA H φ N w x v)(h:fresh H x=true):∀id ver i j,x= .ptr id ver i j→∃ad,v= .pointer (some ad):=by
 rintro id ver i j rfl
 cases hx with
 |ptr _ _ _ _ _ o ho hv hp=>
 simp only[fresh,ho,Bool.and_eq_true,beq_iff_eq]at h
 obtain⟨B,c,h1,rfl⟩:=hp h.1.symm
 exact⟨_,rfl⟩
theorem vz(hR:Rel H φ N w)(hT:cO H φ N w s a)(t:TypeId)(x:Operand)(f:Nat)(ho:o.op= .fieldAddr t x f)(off:Nat)(ft:TypeId)(hf:FO P t f=some (off,ft))
  (z:Value) (k b:Nat) (hi:TI P ft=some (z,k,b)) (hk:0<k) (y:AV) (h:jA off (ao s x)=some y) (hfr:fresh H (ao s x)=true):dd P o a w H φ N y H:=by
 obtain⟨fields,fd,hu,hfd,rfl,rfl⟩:=FO.get hf
 obtain⟨ad,hv,hy⟩:=At (aB hT x) h (sT (aB hT x) hfr)
 refine .same hR hy ?_
 simp only[execOp,ho,hv,Instr.fieldAt,Instr.sureAddr,Sem.run_bind,Sem.run_pure,Result.andThen_ok,run_underlying hu,hfd,fieldPlace,TI.sizeOf hi]
 rw[if_neg (by omega)]
 simp only[Sem.run_pure,Result.andThen_ok]
def SE(P:Program)(t:TypeId):Option TypeId:=match P.underlying t with|some (.slice e)=>some e|_=>none
theorem SE.get{t e:TypeId}(h:SE P t=some e):P.underlying t=some (.slice e):=by
 unfold SE at h
 split at h
 ·cases h;assumption
 ·cases h
def AE(P:Program)(t:TypeId):Option (Nat×TypeId):=match P.underlying t with|some (.array n e)=>some (n,e)|_=>none
theorem AE.get{t e:TypeId}{n:Nat}(h:AE P t=some (n,e)):P.underlying t=some (.array n e):=by
 unfold AE at h
 split at h
 ·cases h;assumption
 ·cases h
def jO(H:aa)(k:Nat)(i:Int):AV→Option AV
 | .d (.list _ es)=>if 0≤i then(es[i.toNat]?).bind fun e=>if e.length=k then some (.dt e)else none else none
 | .sl id ver off len=>if 0≤i∧i<len then(H[id]?).bind fun ob=>if ob.ver=ver∧ob.k=k∧ob.live=true then some (.ptr id ver (off+i.toNat) 0)else none else none
 |_=>none
theorem Ig(hR:Rel H φ N w){k:Nat}{i:Int}{x y:AV}{v:Value}(hx:RA H φ N w x v)(h:jO H k i x=some y):
  ∃ad l c,v= .slice (some ad) l c∧0≤i∧i<l∧RA H φ N w y (.pointer (some (ad.add (i.toNat* k)))):=by
 cases x with
 |d x=>
  cases x with
  |v _=>cases h
  |list nn es=>
   simp only[jO]at h
   split at h
   ·rename_i h0
    obtain⟨e,he,h⟩:=Option.bind_eq_some_iff.1 h
    split at h
    ·rename_i hk
     cases h
     have hi:i.toNat<es.length:=by
      rcases Nat.lt_or_ge i.toNat es.length with h'|h'
      ·exact h'
      ·simp[List.getElem?_eq_none h']at he
     rw[List.getElem?_eq_getElem hi]at he
     cases hx with
     |d hd=>
     cases hd with
     |nil=>simp at hi
     |list _ _ ad cap k' c hc hk' hh hd=>
     have hkk:k'=k:=by rw[←hk,←Option.some.inj he];exact(hk' _ (List.getElem_mem hi)).symm
     subst hkk
     refine⟨ad,es.length,cap,rfl,h0,by omega,.dt e _ (fun t=>c i.toNat t) (fun t ht=>?_) fun t ht=>?_⟩
     ·rw[add_add]
      exact hh i.toNat t hi (by omega)
     ·have:=hd i.toNat hi t (by rw[Option.some.inj he];exact ht)
      simpa[Option.some.inj he]using this
    ·cases h
   ·cases h
 |sl id ver off len=>
  simp only[jO]at h
  split at h
  ·rename_i h0
   obtain⟨ob,hob,h⟩:=Option.bind_eq_some_iff.1 h
   split at h
   ·rename_i hv
    cases h
    cases hx with
    |sl _ _ _ _ A l m o' ho' hv' hp=>
    rw[hob]at ho';cases ho'
    obtain⟨rfl,h1,h2⟩:=hp hv.1.symm
    rcases h2 with⟨_,h3,_⟩|⟨B,c,h3,h4,rfl,rfl⟩
    ·omega
    ·refine⟨_,_,_,rfl,h0.1,h0.2,.ptr _ _ _ _ _ ob hob hv' fun _=>⟨B,c,h3,?_⟩⟩
     rw[add_plain,hv.2.1,Nat.add_mul]
     rfl
   ·cases h
  ·cases h
 |_=>cases h
theorem vH(hR:Rel H φ N w)(hT:cO H φ N w s a)(t:TypeId)(x ix:Operand)(ho:o.op= .indexAddr t x ix)(e:TypeId)(ht:SE P t=some e)(z:Value)(k b:Nat)(hi:TI P e=some (z,k,b))
  (ik:IntKind) (i:Int) (hix:ao s ix= .d (.v (.int ik i))) (y:AV) (h:jO H k i (ao s x)=some y):dd P o a w H φ N y H:=by
 obtain⟨ad,l,c,hv,h0,h1,hy⟩:=Ig hR (aB hT x) h
 have hj:=aB hT ix
 rw[hix]at hj
 have hjv:=hj.closed
 refine .same hR hy ?_
 simp only[execOp,ho,hv,hjv,Instr.indexAt,asIntOf,Sem.run_bind,Sem.run_pure,Result.andThen_ok,run_underlying (SE.get ht)]
 rw[if_pos ⟨h0,h1⟩]
 simp only[Sem.run_bind,Sem.run_pure,Result.andThen_ok,TI.sizeOf hi]
theorem pW(hR:Rel H φ N w)(hT:cO H φ N w s a)(t:TypeId)(x ix:Operand)(ho:o.op= .indexAddr t x ix)(n:Nat)(e:TypeId)(ht:AE P t=some (n,e))(z:Value)(k b:Nat)(hi:TI P e=some (z,k,b))
  (ik:IntKind) (i:Int) (hix:ao s ix= .d (.v (.int ik i))) (h0:0≤i) (h1:i<n) (y:AV) (h:jA (i.toNat* k) (ao s x)=some y) (hfr:fresh H (ao s x)=true):dd P o a w H φ N y H:=by
 obtain⟨ad,hv,hy⟩:=At (aB hT x) h (sT (aB hT x) hfr)
 have hj:=aB hT ix
 rw[hix]at hj
 have hjv:=hj.closed
 refine .same hR hy ?_
 simp only[execOp,ho,hv,hjv,Instr.indexAt,Instr.sureAddr,asIntOf,Sem.run_bind,Sem.run_pure,Result.andThen_ok,run_underlying (AE.get ht)]
 rw[if_pos ⟨h0,h1⟩]
 simp only[Sem.run_bind,Sem.run_pure,Result.andThen_ok,TI.sizeOf hi]
end
def jj:List AV→Option (List Value)
 |[]=>some []
 | .d (.v x)::r=>if x.oneCell' then(jj r).map (x::·)else none
 |_::_=>none
def closed:AV→Option Value
 | .d (.v x)=>some x
 | .agg cs=>(jj cs).map fun l=> .agg l.toArray
 |_=>none
theorem oL{H:aa}{φ:bI}{N:Addr→Prop}{w:World}:∀{cs:List AV} {l:List Value} (vs:List Value),cs.length=vs.length→(∀i (h1:i<cs.length) (h2:i<vs.length),RA H φ N w (cs[i]) (vs[i]))→
  jj cs=some l→vs=l
 |[],l,vs,hl,_,h=>by cases h;exact List.eq_nil_of_length_eq_zero hl.symm
 |c::cs,l,vs,hl,hh,h=>by
  cases vs with
  |nil=>cases hl
  |cons v vs=>
   cases c with
   |d x=>
    cases x with
    |v x=>
     simp only[jj]at h
     split at h
     ·obtain⟨l',hl',rfl⟩:=Option.map_eq_some_iff.1 h
      have h0:=hh 0 (by simp) (by simp)
      simp only[List.getElem_cons_zero]at h0
      rw[h0.closed,oL vs (by simpa using hl) (fun i h1 h2=>by have:=hh (i+1) (by simpa using h1) (by simpa using h2);simpa using this) hl']
     ·cases h
    |list _ _=>cases h
   |_=>cases h
theorem cI{H:aa}{φ:bI}{N:Addr→Prop}{w:World}{x:AV}{v u:Value}(h:RA H φ N w x v)(hc:closed x=some u):v=u:=by
 cases x with
 |d x=>
  cases x with
  |v x=>cases hc;exact h.closed
  |list _ _=>cases hc
 |agg cs=>
  obtain⟨l,hl,rfl⟩:=Option.map_eq_some_iff.1 hc
  cases h with
  |agg _ vs hs hh=>
  rw[←oL vs.toList (by simpa using hs) (fun i h1 h2=>by simpa using hh i h1 (by simpa using h2)) hl]
 |_=>cases hc
section
variable {P:Program} {o:Oper} {a:Act} {w:World} {H:aa} {φ:bI} {N:Addr→Prop} {s:Nat→AV}
def cy(P:Program)(op:BinOp)(t:TypeId)(u v r:Value):Prop:=∀(x y:Operand) (w:World),(do eqGuard op t x y u v;Go.binOp op t u v:Sem Value).run P w= .ok r w
theorem K9(hR:Rel H φ N w)(hT:cO H φ N w s a)(op:BinOp)(t ty:TypeId)(x y:Operand)(ho:o.op= .binOp op t x y ty)(u v r:Value)(hx:closed (ao s x)=some u)(hy:closed (ao s y)=some v)
  (h:cy P op t u v r):dd P o a w H φ N (cD r) H:=by
 refine .same hR (fL r) ?_
 rw[←cI (aB hT x) hx,←cI (aB hT y) hy]at h
 have:=h x y w
 simp only[execOp,ho]
 rw[Sem.run_bind,this]
 rfl
def dE(P:Program)(op:BinOp)(t:TypeId)(u v:Value)(K:Value→Prop):Prop:=
 match u,v with
 | .int k m,.int k' n=>
  match op with
  | .shl=>0≤n∧K (.int k (k.wrap (m* 2^(min n.toNat k.bits))))
  | .shr=>0≤n∧K (.int k (m.fdiv (2^(min n.toNat k.bits))))
  | .add=>k=k'∧K (.int k (k.wrap (m+n)))
  | .sub=>k=k'∧K (.int k (k.wrap (m-n)))
  | .mul=>k=k'∧K (.int k (k.wrap (m* n)))
  | .quo=>k=k'∧n≠0∧K (.int k (k.wrap (m.tdiv n)))
  | .rem=>k=k'∧n≠0∧K (.int k (m.tmod n))
  | .and=>k=k'∧K (.int k (k.wrap (BitVec.ofInt k.bits m&&&BitVec.ofInt k.bits n).toNat))
  | .or=>k=k'∧K (.int k (k.wrap (BitVec.ofInt k.bits m|||BitVec.ofInt k.bits n).toNat))
  | .xor=>k=k'∧K (.int k (k.wrap (BitVec.ofInt k.bits m^^^BitVec.ofInt k.bits n).toNat))
  | .andNot=>k=k'∧K (.int k (k.wrap (BitVec.ofInt k.bits m&&& ~~~BitVec.ofInt k.bits n).toNat))
  | .eql=>k=k'∧K (.bool (m==n))
  | .neq=>k=k'∧K (.bool (m !=n))
  | .lss=>k=k'∧K (.bool (decide (m<n)))
  | .leq=>k=k'∧K (.bool (decide (m≤n)))
  | .gtr=>k=k'∧K (.bool (decide (m>n)))
  | .geq=>k=k'∧K (.bool (decide (m≥n)))
 | .string m,.string n=>
  match op with
  | .eql=>K (.bool (m.toList==n.toList))
  | .neq=>K (.bool (!(m.toList==n.toList)))
  | .lss=>K (.bool (Op.bytesLess m.toList n.toList))
  | .leq=>K (.bool (Op.bytesLess m.toList n.toList||m.toList==n.toList))
  | .gtr=>K (.bool (!(Op.bytesLess m.toList n.toList||m.toList==n.toList)))
  | .geq=>K (.bool (!Op.bytesLess m.toList n.toList))
  |_=>∃r,cy P op t u v r∧K r
 |_,_=>∃r,cy P op t u v r∧K r
theorem Jj{op:BinOp}{t:TypeId}{u v:Value}{K:Value→Prop}(h:dE P op t u v K):∃r,cy P op t u v r∧K r:=by
 unfold dE at h
 split at h
 ·rename_i k m k' n
  split at h<;>first
   |(obtain⟨h0,h⟩:=h
     refine⟨_,fun x y w=>?_,h⟩
     simp[eqGuard,Go.binOp,Op.shift,Int.not_lt.2 h0];done)
   |(obtain⟨rfl,h0,h⟩:=h
     refine⟨_,fun x y w=>?_,h⟩
     simp[eqGuard,Go.binOp,Op.intDiv,h0];done)
   |(obtain⟨rfl,h⟩:=h
     refine⟨_,fun x y w=>?_,h⟩
     simp[eqGuard,Go.binOp,Op.intArith,Op.intBits,Op.intCmp];done)
 ·split at h<;>first
   |exact h
   |(refine⟨_,fun x y w=>?_,h⟩
     simp[eqGuard,Go.binOp,Op.stringOp];done)
 ·exact h
def FK(op:UnOp)(u:Value)(K:Value→Prop):Prop:=
 match op,u with
 | .not,.bool b=>K (.bool !b)
 | .neg,.int k n=>K (.int k (k.wrap (0-n)))
 | .xor,.int k n=>K (.int k (k.wrap (BitVec.ofInt k.bits (if k.signed then -1 else k.max)^^^BitVec.ofInt k.bits n).toNat))
 |_,_=>False
theorem MG(hR:Rel H φ N w)(hT:cO H φ N w s a)(op:UnOp)(t:TypeId)(x:Operand)(ho:o.op= .unOp op t x)(u:Value)(hx:closed (ao s x)=some u)(K:Value→Prop)(h:FK op u K):
  ∃r,K r∧dd P o a w H φ N (cD r) H:=by
 have hv:=cI (aB hT x) hx
 unfold FK at h
 split at h<;>first
  |exact h.elim
  |(refine⟨_,h,.same hR (fL _) ?_⟩
    simp[execOp,ho,hv,Op.unary,Op.intArith,Op.intBits])
def UK(P:Program)(t:TypeId):Option IntKind:=match P.underlying t with|some (.int k)=>some k|_=>none
theorem UK.get{t:TypeId}{k:IntKind}(h:UK P t=some k):P.underlying t=some (.int k):=by
 unfold UK at h
 split at h
 ·cases h;assumption
 ·cases h
theorem rG(hR:Rel H φ N w)(hT:cO H φ N w s a)(src dst:TypeId)(x:Operand)(ho:o.op= .convert src dst x)(ks k':IntKind)(n:Int)(hx:closed (ao s x)=some (.int ks n))
  (h0:UK P src=some k') (k:IntKind) (h:UK P dst=some k):dd P o a w H φ N (.d (.v (.int k (k.wrap n)))) H:=by
 have hv:=cI (aB hT x) hx
 refine .same hR (.d (.v _ rfl)) ?_
 simp[execOp,ho,hv,Go.convert,run_underlying (UK.get h),run_underlying (UK.get h0),Conv.intToInt]
theorem Be(hR:Rel H φ N w)(hT:cO H φ N w s a)(x:Operand)(i:Nat)(ho:o.op= .extract x i)(cs:List AV)(hx:ao s x= .bz cs)(c:AV)(hc:cs[i]?=some c):dd P o a w H φ N c H:=by
 have h:=aB hT x
 rw[hx]at h
 generalize hv:a.eval x=v at h
 cases h with
 |bz _ vs hl hh=>
 have hi:i<cs.length:=by
  rcases Nat.lt_or_ge i cs.length with h'|h'
  ·exact h'
  ·simp[List.getElem?_eq_none h']at hc
 rw[List.getElem?_eq_getElem hi]at hc
 refine .same hR (x:=vs[i]'(by omega)) ?_ ?_
 ·rw[←Option.some.inj hc];exact hh i hi (by omega)
 ·simp[execOp,ho,hv,Instr.extract,show i<vs.size by omega]
theorem zp(hR:Rel H φ N w)(hT:cO H φ N w s a)(f:FuncId)(caps:Array Operand)(ho:o.op= .makeFunc (.func f) #[] caps):dd P o a w H φ N (.fn f (caps.toList.map (ao s))) H:=by
 refine .same hR (x:= .func (.func f) #[] (caps.map a.eval)) (.fn _ _ _ (by simp) fun i h1 h2=>?_) ?_
 ·simp only[List.getElem_map,Array.getElem_map,Array.getElem_toList];exact aB hT _
 ·simp[execOp,ho,Instr.makeFunc]
def xr(H:aa):AV→Bool
 | .dt _=>true
 | .fn _ _=>true
 |x=>match x with| .ptr _ _ _ _=>fresh H x|_=>false
theorem zz(hR:Rel H φ N w)(hT:cO H φ N w s a)(x:Operand)(ho:o.op= .nilCheck x)(h:xr H (ao s x)=true):dd P o a w H φ N (ao s x) H:=by
 have hx:=aB hT x
 refine .same hR hx ?_
 cases e:ao s x with
 |dt cs=>
  rw[e]at hx
  generalize hv:a.eval x=v at hx
  cases hx
  simp[execOp,ho,hv]
 |fn f cs=>
  rw[e]at hx
  generalize hv:a.eval x=v at hx
  cases hx
  simp[execOp,ho,hv]
 |ptr id ver i j=>
  rw[e]at hx h
  obtain⟨ad,hv⟩:=sT hx h id ver i j rfl
  simp[execOp,ho,hv]
 |_=>rw[e]at h;cases h
def isIface(P:Program)(t:TypeId):Bool:=match P.underlying t with|some (.interface _)=>true|some _=>false|none=>true
theorem pg(hR:Rel H φ N w)(hT:cO H φ N w s a)(t:TypeId)(x:Operand)(ho:o.op= .makeInterface t x)(u:Value)(hx:closed (ao s x)=some u)(h:isIface P t=false):
  dd P o a w H φ N (.d (.v (.iface t u))) H:=by
 have hv:=cI (aB hT x) hx
 refine .same hR (.d (.v _ rfl)) ?_
 unfold isIface at h
 split at h
 ·cases h
 ·rename_i d hd hu
  have:∀ms,d≠ .interface ms:=by rintro ms rfl;exact hd ms rfl
  cases d<;>first
   |exact absurd rfl (this _)
   |simp[execOp,ho,hv,Instr.makeInterface,run_underlying hu]
 ·cases h
theorem xD(hR:Rel H φ N w)(hT:cO H φ N w s a)(t:TypeId)(x ix:Operand)(ho:o.op= .index t x ix)(hu:P.underlying t=some .string)(b:ByteArray)(hx:closed (ao s x)=some (.string b))
  (k:IntKind) (i:Int) (hi:closed (ao s ix)=some (.int k i)) (h0:0≤i) (u:UInt8) (h:b[i.toNat]?=some u):dd P o a w H φ N (.d (.v (.int .u8 u.toNat))) H:=by
 have hv:=cI (aB hT x) hx
 have hj:=cI (aB hT ix) hi
 refine .same hR (.d (.v _ rfl)) ?_
 simp[execOp,ho,hv,hj,Instr.index,asIntOf,run_underlying hu,h0,h]
def tj(H:aa):AV→Option Nat
 | .d (.list _ es)=>some es.length
 | .d (.v (.slice _ n _))=>some n
 | .eS=>some 0
 | .sl id ver _ len=>match H[id]? with|some ob=>if ob.ver=ver then some len else none|none=>none
 |_=>none
theorem Ju{x:AV}{v:Value}(hx:RA H φ N w x v){n:Nat}(h:tj H x=some n):∃A c,v= .slice A n c:=by
 cases x with
 |d x=>
  cases x with
  |v x=>
   have:=hx.closed
   subst this
   unfold tj at h
   split at h
   ·rename_i h';cases h'
   ·rename_i h';cases h';cases h;exact⟨_,_,rfl⟩
   ·rename_i h';cases h'
   ·rename_i h';cases h'
   ·cases h
  |list nn es=>
   cases h
   cases hx with
   |d hd=>
   cases hd with
   |nil=>exact⟨_,_,rfl⟩
   |list=>exact⟨_,_,rfl⟩
 |eS=>cases h;cases hx;exact⟨_,_,rfl⟩
 |sl id ver off len=>
  cases hx with
  |sl _ _ _ _ A l m ob ho hv hp=>
  simp only[tj,ho]at h
  split at h
  ·rename_i he
   cases h
   obtain⟨rfl,_⟩:=hp he.symm
   exact⟨_,_,rfl⟩
  ·cases h
 |_=>cases h
theorem Kk(hR:Rel H φ N w)(hT:cO H φ N w s a)(x:Operand)(t:TypeId)(ho:o.op= .call {callee:= .builtin .len,args:=#[x],argTypes:=#[t]})(e:TypeId)(ht:SE P t=some e)(n:Nat)
  (h:tj H (ao s x)=some n):dd P o a w H φ N (.d (.v (.int .i64 n))) H:=by
 obtain⟨A,c,hv⟩:=Ju (aB hT x) h
 refine .same hR (.d (.v _ rfl)) ?_
 simp[execOp,ho,resolve,invoke,Go.builtin,Builtin.len_,hv,run_underlying (SE.get ht),goInt]
theorem BJ(hR:Rel H φ N w)(hT:cO H φ N w s a)(x:Operand)(t:TypeId)(ho:o.op= .call {callee:= .builtin .len,args:=#[x],argTypes:=#[t]})(ht:P.underlying t=some .string)(b:ByteArray)
  (hx:closed (ao s x)=some (.string b)):dd P o a w H φ N (.d (.v (.int .i64 b.size))) H:=by
 have hv:=cI (aB hT x) hx
 refine .same hR (.d (.v _ rfl)) ?_
 simp[execOp,ho,resolve,invoke,Go.builtin,Builtin.len_,hv,run_underlying ht,goInt]
theorem Ab(hR:Rel H φ N w)(hT:cO H φ N w s a)(t:TypeId)(x:Operand)(f:Nat)(ho:o.op= .field t x f)(off:Nat)(ft:TypeId)(hf:FO P t f=some (off,ft))(z:Value)(k b:Nat)(hi:TI P ft=some (z,k,b))
  (cs:List AV) (hx:ao s x= .agg cs) (g:Bool) (hg:gT P ft=some g) (y:AV) (hy:if g then off+k≤cs.length∧y= .agg ((cs.drop off).take k)else cs[off]?=some y):dd P o a w H φ N y H:=by
 obtain⟨fields,fd,hu,hfd,rfl,rfl⟩:=FO.get hf
 have h:=aB hT x
 rw[hx]at h
 generalize hv:a.eval x=v at h
 cases h with
 |agg _ vs hl hh=>
 cases g with
 |true=>
  simp only[if_true]at hy
  obtain⟨h1,rfl⟩:=hy
  refine .same hR (x:= .agg (vs.extract fd.offset (fd.offset+k))) (.agg _ _ (by simp;omega) fun i h2 h3=>?_) ?_
  ·simp only[List.getElem_take,List.getElem_drop,Array.getElem_extract]
   simp at h2
   exact hh _ (by omega) (by omega)
  ·simp[execOp,ho,hv,Instr.field,run_underlying hu,hfd,asAgg,part,gT.run hg,TI.sizeOf hi]
 |false=>
  simp only[Bool.false_eq_true,if_false]at hy
  have hi':fd.offset<cs.length:=by
   rcases Nat.lt_or_ge fd.offset cs.length with h'|h'
   ·exact h'
   ·simp[List.getElem?_eq_none h']at hy
  rw[List.getElem?_eq_getElem hi']at hy
  refine .same hR (x:=vs[fd.offset]'(by omega)) ?_ ?_
  ·rw[←Option.some.inj hy];exact hh _ hi' (by omega)
  ·simp[execOp,ho,hv,Instr.field,run_underlying hu,hfd,asAgg,part,gT.run hg,show fd.offset<vs.size by omega]
end
def ko(H:aa):AV→Option (List (List D))
 | .d (.list _ es)=>some es
 | .d (.v (.slice none 0 0))=>some []
 | .eS=>some []
 | .sl id ver off len=>match H[id]? with|some (.arr _ _ v es)=>if v=ver then some ((es.drop off).take len)else none|_=>none
 |_=>none
structure Src (N:Addr→Prop) (w:World) (k:Nat) (es:List (List D)) (A:Option Addr) (news:List Value):Prop where
 len:news.length=es.length* k
 nil:A=none→es=[]
 cells:∀ad,A=some ad→∀j u,news[j]?=some u→w.cell? (ad.add j)=some u
 rel:∀i (hi:i<es.length) j (hj:j<(es[i]).length),∃u,news[i* k+j]?=some u∧RD N w ((es[i])[j]) u
 one:∀u∈news,u.oneCell'=true
theorem Src.empty(N:Addr→Prop)(w:World)(k:Nat)(A:Option Addr):Src N w k [] A []:=
 ⟨by simp,fun _=>rfl,fun _ _ j u h=>by simp at h,fun i hi=>by simp at hi,fun u h=>by simp at h⟩
theorem CZ{H:aa}{φ:bI}{N:Addr→Prop}{w:World}(hR:Rel H φ N w){x:AV}{v:Value}(hx:RA H φ N w x v){k:Nat}{es:List (List D)}(h:ko H x=some es)(hk:∀e∈es,e.length=k):
  ∃A c news,v= .slice A es.length c∧Src N w k es A news:=by
 cases x with
 |d x=>
  cases x with
  |v x=>
   have:=hx.closed
   subst this
   unfold ko at h
   split at h
   ·rename_i h';cases h'
   ·rename_i h';cases h';cases h;exact⟨none,0,[],rfl,Src.empty N w k none⟩
   ·rename_i h';cases h'
   ·rename_i h';cases h'
   ·cases h
  |list nn es'=>
   simp only[ko,Option.some.injEq]at h
   subst h
   cases hx with
   |d hd=>
   cases hd with
   |nil A c=>exact⟨A,c,[],rfl,Src.empty N w k A⟩
   |list _ _ ad cap k' c hc hk' hh hd=>
   by_cases h0:es'=[]
   ·subst h0;exact⟨some ad,cap,[],rfl,Src.empty N w k _⟩
   have hkk:k'=k:=by
    cases es' with
    |nil=>exact absurd rfl h0
    |cons e r=>rw[←hk' e (by simp),hk e (by simp)]
   subst hkk
   have hlen:∀i (hi:i<es'.length),(es'[i]).length=k':=fun i hi=>hk' _ (List.getElem_mem hi)
   have hget:∀p,p<es'.length* k'→((List.range (es'.length* k')).map fun p=>c (p/k') (p%k'))[p]?=some (c (p/k') (p%k')):=fun p hp=>by simp[hp]
   have hdm:∀i j,j<k'→(i* k'+j)/k'=i∧(i* k'+j)%k'=j:=by
    intro i j hj
    constructor
    ·rw[Nat.mul_comm,Nat.mul_add_div (by omega),Nat.div_eq_of_lt hj];omega
    ·rw[Nat.mul_comm,Nat.mul_add_mod,Nat.mod_eq_of_lt hj]
   refine⟨some ad,cap,(List.range (es'.length* k')).map fun p=>c (p/k') (p%k'),rfl,by simp,fun e=>(by cases e),fun ad' e j u hu=>?_,fun i hi j hj=>?_,fun u hu=>?_⟩
   ·cases e
    have hj:j<es'.length* k':=by
     rcases Nat.lt_or_ge j (es'.length* k')with h'|h'
     ·exact h'
     ·rw[List.getElem?_eq_none (by simpa using h')]at hu;cases hu
    rw[hget j hj]at hu
    cases hu
    have hk0:0<k':=by rcases Nat.eq_zero_or_pos k' with h|h;(subst h;simp at hj);exact h
    have hdi:j/k'<es'.length:=(Nat.div_lt_iff_lt_mul hk0).2 hj
    have:=(hh (j/k') (j%k') hdi (Nat.mod_lt _ hk0)).2
    rwa[Nat.mul_comm,Nat.div_add_mod]at this
   ·have hj':j<k':=by rw[←hlen i hi];exact hj
    refine⟨_,hget _ (eI hj' hi),?_⟩
    rw[(hdm i j hj').1,(hdm i j hj').2]
    exact hd i hi j hj
   ·obtain⟨p,hp,rfl⟩:=List.mem_map.1 hu
    simp at hp
    have hk0:0<k':=by rcases Nat.eq_zero_or_pos k' with h|h;(subst h;simp at hp);exact h
    have hdi:p/k'<es'.length:=(Nat.div_lt_iff_lt_mul hk0).2 hp
    exact(hd (p/k') hdi (p%k') (by rw[hlen _ hdi];exact Nat.mod_lt _ hk0)).one
 |eS=>cases h;cases hx with|eS A=>exact⟨A,0,[],rfl,Src.empty N w k A⟩
 |sl id ver off len=>
  cases hx with
  |sl _ _ _ _ A l m ob ho hv hp=>
  simp only[ko,ho]at h
  cases ob with
  |arr e k' v es'=>
   simp only at h
   split at h
   ·rename_i hvv
    cases h
    obtain⟨rfl,h1,h2⟩:=hp (by simp[aT.ver];omega)
    simp only[aT.len]at h1
    have hob:=hR.obj id _ ho
    cases hob with
    |arr _ _ _ _ hk0 hes hb=>
    have hel:((es'.drop off).take l).length=l:=by simp;omega
    by_cases h0:l=0
    ·subst h0;exact⟨A,m,[],by simp,by simpa using Src.empty N w k A⟩
    have hkk:k'=k:=by
     have hi:off<es'.length:=by omega
     have hmem:es'[off]∈(es'.drop off).take l:=by
      rw[List.mem_iff_getElem]
      exact⟨0,by simp;omega,by simp⟩
     rw[←hes _ (List.getElem_mem hi),hk _ hmem]
    subst hkk
    rcases h2 with⟨_,h3,_⟩|⟨B,cp,h3,h4,rfl,rfl⟩
    ·omega
    rcases hb with⟨g0,_⟩|⟨B',cap,cur,g1,g2,g3,g4,g5,g6⟩
    ·rw[g0]at h3;cases h3
    rw[g1]at h3;cases h3
    have hb':off* k'+l* k'≤cur.size:=by
     have:=Nat.mul_le_mul_right k' h4
     rw[Nat.add_mul]at this
     omega
    refine⟨_,_,(cur.toList.drop (off* k')).take (l* k'),by rw[hel],⟨by rw[hel];simp;omega,fun e=>(by cases e),fun ad e j u hu=>?_,fun i hi j hj=>?_,fun u hu=>?_⟩⟩
    ·cases e
     rw[add_plain]
     simp only[aT.k,World.cell?,g2]
     rw[List.getElem?_take]at hu
     split at hu
     ·rw[List.getElem?_drop]at hu
      simpa using hu
     ·cases hu
    ·rw[hel]at hi
     simp only[List.getElem_take,List.getElem_drop]at hj⊢
     obtain⟨c,hc,hd⟩:=g6 (off+i) (by omega) j hj
     have hjk:j<k':=by rw[←hes _ (List.getElem_mem (show off+i<es'.length by omega))];exact hj
     refine⟨c,?_,hd⟩
     rw[List.getElem?_take,if_pos (eI hjk hi),List.getElem?_drop]
     rw[Nat.add_mul]at hc
     simpa[Nat.add_assoc]using hc
    ·obtain⟨p,hp',rfl⟩:=List.mem_iff_getElem.1 hu
     simp at hp'
     simp only[List.getElem_take,List.getElem_drop,Array.getElem_toList]
     have hdi:p/k'<l:=(Nat.div_lt_iff_lt_mul hk0).2 (by omega)
     have hlen:=hes _ (List.getElem_mem (show off+p/k'<es'.length by omega))
     obtain⟨c,hc,hd⟩:=g6 (off+p/k') (by omega) (p%k') (by rw[hlen];exact Nat.mod_lt _ hk0)
     have hpp:(off+p/k')* k'+p%k'=off* k'+p:=by
      rw[Nat.add_mul,Nat.add_assoc]
      congr 1
      rw[Nat.mul_comm];exact Nat.div_add_mod p k'
     rw[hpp,Array.getElem?_eq_getElem (by omega)]at hc
     rw[Option.some.inj hc]
     exact hd.one
   ·cases h
  |_=>cases h
 |_=>cases h
theorem aF.grow{H:aa}{φ:bI}{N:Addr→Prop}{w w':World}{id:Nat}{e:TypeId}{k ver:Nat}{es es':List (List D)}(ho:H[id]?=some (.arr e k ver es))(row:Option Nat)(p:Option (Nat×Nat))
  (hrow:∀B,row=some B→∃c,φ id=some (B,c)) (hg:w.grownBy w' row) (hp:∀B c,p=some (B,c)→row=some B∨w.heap.size≤B):
  aF H φ N w (H.set id (.arr e k (ver+1) es')) (φ.put id p) N w' where
 len:=by simp
 os:=hg.os
 tape:=hg.tape
 output:=hg.output
 size:=hg.size
 ev k' hk' hn:=hg.block k' hk' fun e'=>by
  obtain⟨c,hc⟩:=hrow k' e'.symm
  exact hn id c (az ho) hc
 own id' B c hid h hB:=by
  by_cases e1:id'=id
  ·subst e1
   rw[bI.a9]at h
   rcases hp B c h with h'|h'
   ·obtain⟨c',hc'⟩:=hrow B h'
    exact⟨id',c',by simpa using hid,hc'⟩
   ·omega
  ·rw[bI.bN _ _ _ _ e1]at h
   exact⟨id',c,by simpa using hid,h⟩
 mono _ h:=h
 c8 id' o1 h:=by
  by_cases e1:id'=id
  ·subst e1
   rw[ho]at h;cases h
   exact⟨_,List.getElem?_set_self (az ho),rfl,by simp[aT.ver],fun e2=>by simp[aT.ver]at e2,fun kk es he=>by cases he⟩
  ·exact⟨o1,by rw[List.getElem?_set_ne (Ne.symm e1)];exact h,rfl,Nat.le_refl _,fun _=>⟨bI.bN _ _ _ _ e1,Nat.le_refl _⟩,fun kk es he=>⟨bI.bN _ _ _ _ e1,es,he⟩⟩
 qY _ h:= .inl h
theorem Rel.grow{H:aa}{φ:bI}{N:Addr→Prop}{w w':World}(hR:Rel H φ N w){id:Nat}{e:TypeId}{k ver:Nat}{es es':List (List D)}(ho:H[id]?=some (.arr e k ver es))(row:Option Nat)(p:Option (Nat×Nat))
  (hrow:∀B,row=some B→∃c,φ id=some (B,c)) (hg:w.grownBy w' row) (hp:∀B c,p=some (B,c)→row=some B∨w.heap.size≤B)
  (hnew:lG (H.set id (.arr e k (ver+1) es')) (φ.put id p) N w' id (.arr e k (ver+1) es')):Rel (H.set id (.arr e k (ver+1) es')) (φ.put id p) N w' where
 obj id' o1 h:=by
  by_cases e1:id'=id
  ·subst e1
   rw[List.getElem?_set_self (az ho)]at h;cases h
   exact hnew
  ·rw[List.getElem?_set_ne (Ne.symm e1)]at h
   refine(hR.obj id' o1 h).ev hR (aF.grow ho row p hrow hg hp) (bI.bN _ _ _ _ e1) fun B c hb=>hg.block B ((hR.obj id' o1 h).dI hb) fun e2=>?_
   obtain⟨c',hc'⟩:=hrow B e2.symm
   exact e1 (hR.inj id' id B c c' (az h) (az ho) hb hc')
 inj i j B c c' hi hj h1 h2:=by
  simp at hi hj
  have aux:∀i B c,i<H.length→i≠id→φ i=some (B,c)→∀c',p=some (B,c')→False:=by
   intro i B c hi hne hb c' hc'
   rcases hp B c' hc' with h'|h'
   ·obtain⟨c2,hc2⟩:=hrow B h'
    exact hne (hR.inj i id B c c2 hi (az ho) hb hc2)
   ·exact absurd (hR.dI hi hb) (by omega)
  by_cases e1:i=id<;>by_cases e2:j=id
  ·omega
  ·subst e1
   rw[bI.a9]at h1
   rw[bI.bN _ _ _ _ e2]at h2
   exact(aux j B c' hj e2 h2 c h1).elim
  ·subst e2
   rw[bI.a9]at h2
   rw[bI.bN _ _ _ _ e1]at h1
   exact(aux i B c hi e1 h1 c' h2).elim
  ·rw[bI.bN _ _ _ _ e1]at h1
   rw[bI.bN _ _ _ _ e2]at h2
   exact hR.inj i j B c c' hi hj h1 h2
 live a ha:=by
  obtain⟨v,hv⟩:=hR.live a ha
  refine⟨v,?_⟩
  rw[World.cell?_of_block (w:=w) (hg.block a.block (World.block_lt_of_cell? w a hv) fun e2=>?_)]
  ·exact hv
  ·obtain⟨c',hc'⟩:=hrow a.block e2.symm
   exact hR.apart a id _ c' ha (az ho) hc' rfl
 apart a id' B c ha hid hb:=by
  by_cases e1:id'=id
  ·subst e1
   rw[bI.a9]at hb
   rcases hp B c hb with h'|h'
   ·obtain⟨c',hc'⟩:=hrow B h'
    exact hR.apart a id' B c' ha (az ho) hc'
   ·have:=hR.xh ha
    omega
  ·rw[bI.bN _ _ _ _ e1]at hb
   exact hR.apart a id' B c ha (by simpa using hid) hb
section
variable {P:Program} {o:Oper} {a:Act} {w:World} {H:aa} {φ:bI} {N:Addr→Prop} {s:Nat→AV}
theorem q8(t ty e:TypeId)(i:TypeInfo)(ht:P.underlying t=some (.slice e))(hi:P.info? e=some i)(A:Option Addr)(n cap c:Nat)(hn:n≤cap)(w:World):
  (Builtin.append_ #[t,t] ty #[.slice A n cap,.slice none 0 c]).run P w= .ok (.slice A n cap) w:=by
 cases A<;>simp[Builtin.append_,run_underlying ht,sizeOf,typeInfo,hi,Builtin.lenOf,Builtin.firstCells,hn,storeCells]
theorem q9(t ty e:TypeId)(i:TypeInfo)(ht:P.underlying t=some (.slice e))(hi:P.info? e=some i)(A:Option Addr)(n cap c:Nat)(hn:n≤cap)(B:Addr)(w:World):
  (Builtin.append_ #[t,t] ty #[.slice A n cap,.slice (some B) 0 c]).run P w= .ok (.slice A n cap) w:=by
 cases A<;>simp[Builtin.append_,run_underlying ht,sizeOf,typeInfo,hi,Builtin.lenOf,Builtin.firstCells,hn,storeCells,loadCells,loadCellsFrom]
theorem GO{k:Nat}{es news:List (List D)}{cs vs:List Value}(hl:cs.length=es.length* k)(hes:∀e∈es,e.length=k)(hnews:∀e∈news,e.length=k)(R:D→Value→Prop)
  (h1:∀i (hi:i<es.length) j (hj:j<(es[i]).length),∃u,cs[i* k+j]?=some u∧R ((es[i])[j]) u)
  (h2:∀i (hi:i<news.length) j (hj:j<(news[i]).length),∃u,vs[i* k+j]?=some u∧R ((news[i])[j]) u):
  ∀i (hi:i<(es++news).length) j (hj:j<((es++news)[i]).length),∃u,(cs++vs)[i* k+j]?=some u∧R (((es++news)[i])[j]) u:=by
 intro i hi j hj
 rcases Nat.lt_or_ge i es.length with h|h
 ·have hj':j<(es[i]).length:=by rw[List.getElem_append_left h]at hj;exact hj
  obtain⟨u,hu,hr⟩:=h1 i h j hj'
  refine⟨u,?_,?_⟩
  ·rw[List.getElem?_append_left (by rw[hl];exact eI (by rw[←hes _ (List.getElem_mem h)];exact hj') h)];exact hu
  ·simpa only[List.getElem_append_left h]using hr
 ·have hi':i-es.length<news.length:=by simp at hi;omega
  have hj':j<(news[i-es.length]).length:=by rw[List.getElem_append_right h]at hj;exact hj
  obtain⟨u,hu,hr⟩:=h2 _ hi' j hj'
  have hm:(i-es.length)* k+es.length* k=i* k:=by rw[←Nat.add_mul];congr 1;omega
  refine⟨u,?_,?_⟩
  ·rw[List.getElem?_append_right (by rw[hl];omega),hl]
   have:i* k+j-es.length* k=(i-es.length)* k+j:=by omega
   rw[this];exact hu
  ·simpa only[List.getElem_append_right h]using hr
structure J2 (P:Program) (w:World) (t t' ty e:TypeId) (i:TypeInfo) (z:Value) (n:Nat) (nv:List Value) (yv:Value):Prop where
 len:nv.length=n* i.size
 one:∀u∈nv,u.oneCell'=true
 zero:n=0→∀(A:Option Addr) (m cap:Nat),m≤cap→(Builtin.append_ #[t,t'] ty #[.slice A m cap,yv]).run P w= .ok (.slice A m cap) w
 nil:0<n→(n:Int)≤9223372036854775807→n* i.bytes≤281474976710656→(Builtin.append_ #[t,t'] ty #[.slice none 0 0,yv]).run P w=
   .ok (.slice (some ⟨w.heap.size,0,none⟩) n (grownCap w n 0 e)) (w.drew.alloc (.cells (nv.toArray++Builtin.zeroCells z.cells (grownCap w n 0 e-n)) e))
 room:0<n→∀(B m cap:Nat) (cur:Array Value),w.heap[B]?=some (.cells cur e (0,0))→m+n≤cap→m* i.size+nv.length≤cur.size→(Builtin.append_ #[t,t'] ty #[.slice (some ⟨B,0,none⟩) m cap,yv]).run P w=
   .ok (.slice (some ⟨B,0,none⟩) (m+n) cap) (w.setRow B (cur.toList.take (m* i.size)++nv++cur.toList.drop (m* i.size+nv.length)).toArray)
 grow:0<n→∀(b:Addr) (m cap:Nat) (olds:List Value),olds.length=m* i.size→(∀j v,olds[j]?=some v→w.cell? (b.add j)=some v)→cap<m+n→((m+n:Nat):Int)≤9223372036854775807→Builtin.nextslicecap (m+n) cap* i.bytes≤281474976710656→
   (Builtin.append_ #[t,t'] ty #[.slice (some b) m cap,yv]).run P w=
   .ok (.slice (some ⟨w.heap.size,0,none⟩) (m+n) (grownCap w (m+n) cap e)) (w.drew.alloc (.cells (olds.toArray++nv.toArray++Builtin.zeroCells z.cells (grownCap w (m+n) cap e-(m+n))) e))
theorem rB(hR:Rel H φ N w)(ty t t' e:TypeId)(i:TypeInfo)(z:Value)(hz:z.cells.size=i.size)(id ver:Nat)(es news:List (List D))(xv yv:Value)(nv:List Value)
  (hAR:J2 P w t t' ty e i z news.length nv yv) (hrel0:∀j (hj:j<news.length) t (ht:t<(news[j]).length),∃u,nv[j* i.size+t]?=some u∧RD N w ((news[j])[t]) u)
  (hxa:RA H φ N w (.sl id ver 0 es.length) xv) (hob:H[id]?=some (.arr e i.size ver es)) (hk:∀c∈news,c.length=i.size) (hb:(es.length+news.length)* i.bytes≤140737488355328) (hm:es.length+news.length≤9223372036854775807):
  ∃v' w' φ',(Builtin.append_ #[t,t'] ty #[xv,yv]).run P w= .ok v' w'∧Rel (H.set id (.arr e i.size (ver+1) (es++news))) φ' N w'∧aF H φ N w (H.set id (.arr e i.size (ver+1) (es++news))) φ' N w'∧
   RA (H.set id (.arr e i.size (ver+1) (es++news))) φ' N w' (.sl id (ver+1) 0 (es.length+news.length)) v':=by
 cases hxa with
 |sl _ _ _ _ A' l m ob ho' hv' hp=>
 rw[hob]at ho';cases ho'
 obtain⟨rfl,_,h2⟩:=hp rfl
 have hobj:=hR.obj id _ hob
 cases hobj with
 |arr _ _ _ _ hk0 hes hbl=>
 have hall:∀c∈es++news,c.length=i.size:=fun c hc=>by rcases List.mem_append.1 hc with h|h;exact hes c h;exact hk c h
 by_cases hn0:news.length=0
 ·
  have hnews:news=[]:=List.eq_nil_of_length_eq_zero hn0
  subst hnews
  have hrun:(Builtin.append_ #[t,t'] ty #[.slice A' es.length m,yv]).run P w= .ok (.slice A' es.length m) w:=hAR.zero rfl _ _ _ (by
   rcases h2 with⟨_,h3,_,h5⟩|⟨B,cp,_,h4,_,h5⟩<;>omega)
  have hS:aF H φ N w (H.set id (.arr e i.size (ver+1) (es++[]))) (φ.put id (φ id)) N w:=
   aF.grow hob (φ id|>.map (·.1)) (φ id) (fun B hB=>by cases hq:φ id with|none=>simp[hq]at hB|some p=>simp[hq]at hB;exact⟨p.2,by rw[←hB]⟩) ⟨rfl,rfl,rfl,Nat.le_refl _,fun _ _ _=>rfl⟩
    (fun B c hq=> .inl (by simp[hq]))
  refine⟨.slice A' es.length m,w,φ.put id (φ id),hrun,?_,hS,?_⟩
  ·refine hR.grow hob (φ id|>.map (·.1)) (φ id) (fun B hB=>by cases hq:φ id with|none=>simp[hq]at hB|some p=>simp[hq]at hB;exact⟨p.2,by rw[←hB]⟩) ⟨rfl,rfl,rfl,Nat.le_refl _,fun _ _ _=>rfl⟩
    (fun B c hq=> .inl (by simp[hq])) (.arr e i.size _ _ hk0 hall ?_)
   rcases hbl with⟨g0,g1⟩|⟨B,cap,cur,g1,g2,g3,g4,g5,g6⟩
   ·exact .inl ⟨(bI.a9 _ _ _).trans g0,by simpa using g1⟩
   ·exact .inr ⟨B,cap,cur,(bI.a9 _ _ _).trans g1,g2,by simpa using g3,g4,g5,by simpa using g6⟩
  ·refine .sl _ _ _ _ _ _ _ (.arr e i.size (ver+1) (es++[])) (List.getElem?_set_self (az hob)) (Nat.le_refl _) fun _=>⟨by simp,by simp[aT.len],?_⟩
   rcases h2 with⟨h3,h4,h5,h6⟩|⟨B,cp,h3,h4,h5,h6⟩
   ·exact .inl ⟨(bI.a9 _ _ _).trans h3,by simpa using h4,rfl,h6⟩
   ·exact .inr ⟨B,cp,(bI.a9 _ _ _).trans h3,by simpa using h4,by simpa[aT.k]using h5,h6⟩
 ·
  have hn1:0<news.length:=by omega
  have h63:es.length+news.length≤maxLen:=by simpa[maxLen]using hm
  have fin:∀(w':World) (B cap:Nat) (cur:Array Value) (cs:List Value),(Builtin.append_ #[t,t'] ty #[.slice A' es.length m,yv]).run P w= .ok (.slice (some ⟨B,0,none⟩) (es.length+news.length) cap) w'→
    w.grownBy w' (φ id|>.map (·.1))→((φ id|>.map (·.1))=some B∨w.heap.size≤B)→w'.heap[B]?=some (.cells cur e (0,0))→es.length+news.length≤cap→cap≤maxLen→cur.size=cap* i.size→
    cs.length=es.length* i.size→(∀(j:Nat) (u:Value),(cs++nv)[j]?=some u→cur[j]?=some u)→(∀j (hj:j<es.length) t (ht:t<(es[j]).length),∃u,cs[j* i.size+t]?=some u∧RD N w ((es[j])[t]) u)→
    ∃v' w' φ',(Builtin.append_ #[t,t'] ty #[.slice A' es.length m,yv]).run P w= .ok v' w'∧Rel (H.set id (.arr e i.size (ver+1) (es++news))) φ' N w'∧aF H φ N w (H.set id (.arr e i.size (ver+1) (es++news))) φ' N w'∧
     RA (H.set id (.arr e i.size (ver+1) (es++news))) φ' N w' (.sl id (ver+1) 0 (es.length+news.length)) v':=by
   intro w' B cap cur cs hrun hg hB hcur hle hcm hsz hcl hcc hrel
   have hrow:∀B,(φ id|>.map (·.1))=some B→∃c,φ id=some (B,c):=fun B hB=>by
    cases hq:φ id with
    |none=>simp[hq]at hB
    |some p=>simp[hq]at hB;exact⟨p.2,by rw[←hB]⟩
   have hp:∀B' c',(some (B,cap):Option (Nat×Nat))=some (B',c')→(φ id|>.map (·.1))=some B'∨w.heap.size≤B':=fun B' c' h=>by cases h;exact hB
   have hS:aF H φ N w (H.set id (.arr e i.size (ver+1) (es++news))) (φ.put id (some (B,cap))) N w':=aF.grow hob _ _ hrow hg hp
   refine⟨_,w',φ.put id (some (B,cap)),hrun,hR.grow hob _ _ hrow hg hp (.arr e i.size _ _ hk0 hall (.inr ⟨B,cap,cur,bI.a9 _ _ _,hcur,by simpa using hle,hcm,hsz,fun i' hi' j' hj'=>?_⟩)),hS,?_⟩
   ·obtain⟨u,hu,hr⟩:=GO hcl hes hk (RD N w) hrel hrel0 i' hi' j' hj'
    exact⟨u,hcc _ _ hu,hr.since hR hS⟩
   ·exact .sl _ _ _ _ _ _ _ (.arr e i.size (ver+1) (es++news)) (List.getElem?_set_self (az hob)) (Nat.le_refl _) fun _=>⟨rfl,by simp[aT.len],.inr ⟨B,cap,bI.a9 _ _ _,by omega,by simp,by simp⟩⟩
  rcases h2 with⟨h3,h4,_,rfl⟩|⟨B,cp,h3,h4,hA,hm'⟩
  ·
   have hes0:es=[]:=List.eq_nil_of_length_eq_zero h4
   subst hes0
   simp only[List.length_nil,Nat.zero_add]at*
   have hr:(Builtin.append_ #[t,t'] ty #[.slice A' 0 0,yv]).run P w=
     .ok (.slice (some ⟨w.heap.size,0,none⟩) news.length (grownCap w news.length 0 e)) (w.drew.alloc (.cells (nv.toArray++Builtin.zeroCells z.cells (grownCap w news.length 0 e-news.length)) e)):=by
    cases A' with
    |none=>exact hAR.nil hn1 (by omega) (by omega)
    |some b0=>
     have:=hAR.grow hn1 b0 0 0 [] (by simp) (by simp) (by omega) (by omega) (growslice_fits (by omega) (by simpa using hb))
     simpa using this
   refine fin _ w.heap.size _ _ [] hr ⟨rfl,rfl,rfl,by simp,fun k hk _=>Below.heap_alloc w.drew _ k hk⟩ (.inr (Nat.le_refl _)) (heap_alloc_new w.drew _) (grownCap_ge w _ _ e) (grownCap_le_maxLen w _ _ e h63) ?_ (by simp) ?_ (fun j hj=>by simp at hj)
   ·rw[Array.size_append,size_zeroCells,hz]
    simp only[List.size_toArray,hAR.len,←Nat.add_mul]
    congr 1
    have:=grownCap_ge w news.length 0 e
    omega
   ·intro j u hu
    simp only[List.nil_append]at hu
    have hj:j<nv.length:=by
     rcases Nat.lt_or_ge j nv.length with h|h
     ·exact h
     ·simp[List.getElem?_eq_none h]at hu
    rw[Array.getElem?_append_left (by simpa using hj)]
    simpa using hu
  ·rcases hbl with⟨g0,_⟩|⟨B',cap,cur,g1,g2,g3,g4,g5,g6⟩
   ·rw[g0]at h3;cases h3
   have hφ:=g1
   obtain⟨e1,e2⟩:=Prod.mk.inj (Option.some.inj (g1.symm.trans h3))
   subst e1 e2
   obtain rfl:A'=some ⟨B',0,none⟩:=by rw[hA];simp
   obtain rfl:m=cap:=by omega
   have hcs:(cur.toList.take (es.length* i.size)).length=es.length* i.size:=by
    have:=Nat.mul_le_mul_right i.size g3
    simp;omega
   have hrel:∀j (hj:j<es.length) t (ht:t<(es[j]).length),∃u,(cur.toList.take (es.length* i.size))[j* i.size+t]?=some u∧RD N w ((es[j])[t]) u:=by
    intro j hj t ht
    obtain⟨u,hu,hr⟩:=g6 j hj t ht
    refine⟨u,?_,hr⟩
    rw[List.getElem?_take,if_pos (eI (by rw[←hes _ (List.getElem_mem hj)];exact ht) hj)]
    simpa using hu
   by_cases hroom:es.length+news.length≤m
   ·have hfit:es.length* i.size+nv.length≤cur.size:=by
     rw[hAR.len,g5,←Nat.add_mul];exact Nat.mul_le_mul_right _ hroom
    have hr:=hAR.room hn1 B' es.length m cur g2 hroom hfit
    refine fin _ B' m _ (cur.toList.take (es.length* i.size)) hr ⟨rfl,rfl,rfl,by simp,fun k _ hk=>setRow_other w B' k _ (fun e=>hk (by simp[hφ,e]))⟩ (.inl (by simp[hφ])) (setRow_heap w B' cur _ e _ g2) hroom g4 ?_ hcs ?_ hrel
    ·simp only[List.size_toArray,List.length_append,List.length_take,List.length_drop,Array.length_toList]
     omega
    ·intro j u hu
     rw[List.getElem?_toArray]
     have hj:j<(cur.toList.take (es.length* i.size)++nv).length:=by
      rcases Nat.lt_or_ge j (cur.toList.take (es.length* i.size)++nv).length with h|h
      ·exact h
      ·rw[List.getElem?_eq_none h]at hu;cases hu
     rw[List.getElem?_append_left hj]
     exact hu
   ·have holds:∀j u,(cur.toList.take (es.length* i.size))[j]?=some u→w.cell? ((⟨B',0,none⟩:Addr).add j)=some u:=by
     intro j u hu
     rw[add_plain]
     simp only[World.cell?,g2]
     rw[List.getElem?_take]at hu
     split at hu
     ·simpa using hu
     ·cases hu
    have hr:=hAR.grow hn1 ⟨B',0,none⟩ es.length m (cur.toList.take (es.length* i.size)) hcs holds (by omega) (by omega) (growslice_fits (by omega) hb)
    refine fin _ w.heap.size _ _ (cur.toList.take (es.length* i.size)) hr ⟨rfl,rfl,rfl,by simp,fun k hk _=>Below.heap_alloc w.drew _ k hk⟩ (.inr (Nat.le_refl _)) (heap_alloc_new w.drew _) (grownCap_ge w _ _ e) (grownCap_le_maxLen w _ _ e h63) ?_ hcs ?_ hrel
    ·simp only[Array.size_append,size_zeroCells,hz,List.size_toArray,hcs,hAR.len]
     have:=grownCap_ge w (es.length+news.length) m e
     rw[←Nat.add_mul,←Nat.add_mul]
     congr 1
     omega
    ·intro j u hu
     have hj:j<(cur.toList.take (es.length* i.size)++nv).length:=by
      rcases Nat.lt_or_ge j (cur.toList.take (es.length* i.size)++nv).length with h|h
      ·exact h
      ·rw[List.getElem?_eq_none h]at hu;cases hu
     rw[Array.getElem?_append_left (by simpa using hj),List.append_toArray,List.getElem?_toArray]
     exact hu
theorem qj(hR:Rel H φ N w)(ty t e:TypeId)(ht:SE P t=some e)(z:Value)(k b:Nat)(hi:TI P e=some (z,k,b))(hz:z.cells.size=k)(id ver:Nat)(es news:List (List D))(xv yv:Value)(y:AV)
  (hxa:RA H φ N w (.sl id ver 0 es.length) xv) (hya:RA H φ N w y yv) (hob:H[id]?=some (.arr e k ver es))
  (hy:ko H y=some news) (hk:∀c∈news,c.length=k) (hb:(es.length+news.length)* b≤140737488355328) (hm:es.length+news.length≤9223372036854775807):
  ∃v' w' φ',(Builtin.append_ #[t,t] ty #[xv,yv]).run P w= .ok v' w'∧Rel (H.set id (.arr e k (ver+1) (es++news))) φ' N w'∧aF H φ N w (H.set id (.arr e k (ver+1) (es++news))) φ' N w'∧
   RA (H.set id (.arr e k (ver+1) (es++news))) φ' N w' (.sl id (ver+1) 0 (es.length+news.length)) v':=by
 obtain⟨i,hii,hzz,rfl,rfl⟩:=TI.info hi
 have hse:=SE.get ht
 obtain⟨A,c,nv,rfl,hsrc⟩:=CZ hR hya hy hk
 have hn:∀{A:Option Addr},0<news.length→Src N w i.size news A nv→∃ad,A=some ad:=fun{A} h0 hs=>by
  cases A with
  |none=>rw[hs.nil rfl]at h0;simp at h0
  |some ad=>exact⟨ad,rfl⟩
 refine rB hR ty t t e i z hz id ver es news xv _ nv ⟨hsrc.len,hsrc.one,fun h0 A' m cap hle=>?_,fun h0 h1 h2=>?_,fun h0 B m cap cur hc h1 h2=>?_,fun h0 b m cap olds h1 h2 h3 h4 h5=>?_⟩ hsrc.rel hxa hob hk hb hm
 ·rw[h0]
  cases A with
  |none=>exact q8 t ty e i hse hii A' _ _ c hle w
  |some B=>exact q9 t ty e i hse hii A' _ _ c hle B w
 ·obtain⟨ad,rfl⟩:=hn h0 hsrc
  exact run_append_nil (P:=P) w t ty e i z hse hii hzz ad news.length c nv hsrc.len (hsrc.cells ad rfl) h0 h1 h2
 ·obtain⟨ad,rfl⟩:=hn h0 hsrc
  exact run_append_room (P:=P) w t ty e i hse hii B m cap cur hc ad news.length c nv hsrc.len (hsrc.cells ad rfl) hsrc.one h1 h2
 ·obtain⟨ad,rfl⟩:=hn h0 hsrc
  exact run_append_grow (P:=P) w t ty e i z hse hii hzz b m cap olds h1 h2 ad news.length c nv hsrc.len (hsrc.cells ad rfl) h3 h4 h5
def cC(b:ByteArray):List (List D):=b.data.toList.map fun x=>[.v (.int .u8 (x.toNat:Int))]
theorem xL(b:ByteArray):(cC b).length=b.size:=by simp[cC]
theorem tf(hR:Rel H φ N w)(ty t t' e:TypeId)(ht:SE P t=some e)(hu:P.underlying t'=some .string)(z:Value)(b:Nat)(hi:TI P e=some (z,1,b))(hz:z.cells.size=1)(id ver:Nat)(es:List (List D))(xv:Value)(sb:ByteArray)
  (hxa:RA H φ N w (.sl id ver 0 es.length) xv) (hob:H[id]?=some (.arr e 1 ver es)) (hb:(es.length+(cC sb).length)* b≤140737488355328) (hm:es.length+(cC sb).length≤9223372036854775807):
  ∃v' w' φ',(Builtin.append_ #[t,t'] ty #[xv,.string sb]).run P w= .ok v' w'∧Rel (H.set id (.arr e 1 (ver+1) (es++cC sb))) φ' N w'∧aF H φ N w (H.set id (.arr e 1 (ver+1) (es++cC sb))) φ' N w'∧
   RA (H.set id (.arr e 1 (ver+1) (es++cC sb))) φ' N w' (.sl id (ver+1) 0 (es.length+(cC sb).length)) v':=by
 obtain⟨i,hii,hzz,hs1,rfl⟩:=TI.info hi
 have hse:=SE.get ht
 have hl:=xL sb
 have hcl:(Go.Lib.strCells sb).length=sb.size:=Go.Lib.strCells_length sb
 suffices gen:∀m:Nat,m=i.size→∃v' w' φ',(Builtin.append_ #[t,t'] ty #[xv,.string sb]).run P w= .ok v' w'∧Rel (H.set id (.arr e m (ver+1) (es++cC sb))) φ' N w'∧aF H φ N w (H.set id (.arr e m (ver+1) (es++cC sb))) φ' N w'∧
   RA (H.set id (.arr e m (ver+1) (es++cC sb))) φ' N w' (.sl id (ver+1) 0 (es.length+(cC sb).length)) v' from gen 1 hs1.symm
 intro m hms
 subst hms
 refine rB hR ty t t' e i z (by rw[hs1];exact hz) id ver es (cC sb) xv _ (Go.Lib.strCells sb) ⟨by rw[hl,hcl,hs1,Nat.mul_one],fun u hu=>Go.Lib.strCells_oneCell sb u hu,fun h0 A m cap hle=>?_,fun h0 h1 h2=>?_,fun h0 B m cap cur hc h1 h2=>?_,fun h0 a m cap olds h1 h2 h3 h4 h5=>?_⟩ (fun j hj t ht=>?_) hxa (by rw[hs1];exact hob) (fun c hc=>?_) hb hm
 ·rw[hl]at h0
  have:sb.data=#[]:=Array.eq_empty_of_size_eq_zero h0
  cases A<;>simp[Builtin.append_,run_underlying hse,run_underlying hu,sizeOf,typeInfo,hii,Builtin.lenOf,Builtin.firstCells,hle,storeCells,h0,this]
 ·rw[hl]at*
  have:=run_append_nil_string (P:=P) w t t' ty e i z hse hu hii hzz sb h0 h1 h2
  rw[this]
  have:(Go.Lib.strCells sb).toArray=sb.data.map (fun b=>Value.int .u8 b.toNat):=by apply Array.ext';simp[Go.Lib.strCells]
  rw[this]
 ·rw[hl]at*
  have:=Go.Lib.run_append_room_string (P:=P) w t t' ty e i hse hu hii hs1 B m cap cur hc sb h1 (by rw[hcl,hs1,Nat.mul_one]at h2;exact h2)
  rw[this,hcl,hs1,Nat.mul_one]
 ·rw[hl]at*
  exact Go.Lib.run_append_grow_string (P:=P) w t t' ty e i z hse hu hii hzz a m cap olds h1 h2 sb h3 h4 h5
 ·have hj':j<sb.data.size:=by rw[hl]at hj;exact hj
  have e1:(cC sb)[j]=[.v (.int .u8 ((sb.data[j]).toNat:Int))]:=by simp[cC]
  have ht0:t=0:=by rw[e1]at ht;simp at ht;exact ht
  subst ht0
  refine⟨.int .u8 ((sb.data[j]).toNat:Int),?_,?_⟩
  ·rw[hs1,Nat.mul_one,Nat.add_zero];simp only[Go.Lib.strCells,List.getElem?_map,Array.getElem?_toList,Array.getElem?_eq_getElem hj',Option.map_some]
  ·simp only[e1,List.getElem_cons_zero];exact .v _ rfl
 ·obtain⟨x,_,rfl⟩:=List.mem_map.1 hc
  rw[hs1];rfl
theorem xB(t t' ty e e':TypeId)(ht:P.underlying t=some (.slice e))(ht':P.underlying t'=some (.slice e'))(x y:Value)(w:World):
  (Builtin.append_ #[t,t'] ty #[x,y]).run P w=(Builtin.append_ #[t,t] ty #[x,y]).run P w:=by
 cases x<;>simp[Builtin.append_,run_underlying ht,run_underlying ht',Sem.run_bind]
theorem nc{t t' e:TypeId}(ht:SE P t=some e)(htt:t'=t∨∃e',SE P t'=some e')(ty:TypeId)(x y:Value)(w:World):
  (Builtin.append_ #[t,t'] ty #[x,y]).run P w=(Builtin.append_ #[t,t] ty #[x,y]).run P w:=by
 rcases htt with rfl|⟨e',h⟩
 ·rfl
 ·exact xB t t' ty e e' (SE.get ht) (SE.get h) x y w
theorem E9(hR:Rel H φ N w)(hT:cO H φ N w s a)(x y:Operand)(t t':TypeId)(htt:t'=t∨∃e',SE P t'=some e')(ho:o.op= .call {callee:= .builtin .append,args:=#[x,y],argTypes:=#[t,t']})(e:TypeId)(ht:SE P t=some e)
  (z:Value) (k b:Nat) (hi:TI P e=some (z,k,b)) (hz:z.cells.size=k) (id ver:Nat) (es news:List (List D)) (hx:ao s x= .sl id ver 0 es.length) (hob:H[id]?=some (.arr e k ver es))
  (hy:ko H (ao s y)=some news) (hk:∀c∈news,c.length=k) (hb:(es.length+news.length)* b≤140737488355328) (hm:es.length+news.length≤9223372036854775807):
  dd P o a w H φ N (.sl id (ver+1) 0 (es.length+news.length)) (H.set id (.arr e k (ver+1) (es++news))):=by
 obtain⟨v',w',φ',hr,h1,h2,h3⟩:=qj hR o.type t e ht z k b hi hz id ver es news (a.eval x) (a.eval y) (ao s y) (by rw[←hx];exact aB hT x) (aB hT y) hob hy hk hb hm
 refine⟨v',w',φ',N,.inl ?_,h1,h2,h3⟩
 rw[←nc ht htt]at hr
 simp[execOp,ho,resolve,invoke,Go.builtin,hr]
def isNone:AV→Bool
 | .d (.v (.slice none 0 0))=>true
 | .eS=>true
 |_=>false
theorem mC{x:AV}{v:Value}(hx:RA H φ N w x v)(h:isNone x=true):∃A,v= .slice A 0 0:=by
 unfold isNone at h
 split at h
 ·exact⟨none,hx.closed⟩
 ·cases hx;exact⟨_,rfl⟩
 ·cases h
theorem aF.qV(hR:Rel H φ N w)(o:aT):aF H φ N w (H++[o]) (φ.put H.length none) N w where
 len:=by simp
 os:=rfl
 tape:=rfl
 output:=rfl
 size:=Nat.le_refl _
 ev _ _ _:=rfl
 own id B c hid hp hB:=by
  by_cases he:id=H.length
  ·subst he;rw[bI.a9]at hp;cases hp
  ·rw[bI.bN _ _ _ _ he]at hp
   exact⟨id,c,by simp at hid;omega,hp⟩
 mono _ h:=h
 c8 id o' h:=⟨o',by rw[List.getElem?_append_left (az h)];exact h,rfl,Nat.le_refl _,
  fun _=>⟨bI.bN _ _ _ _ (Nat.ne_of_lt (az h)),Nat.le_refl _⟩,fun kk es he=>⟨bI.bN _ _ _ _ (Nat.ne_of_lt (az h)),es,he⟩⟩
 qY _ h:= .inl h
theorem Rel.qV(hR:Rel H φ N w)(e:TypeId)(k:Nat)(hk:0<k)(ver:Nat:=0):Rel (H++[.arr e k ver []]) (φ.put H.length none) N w where
 obj id o' h:=by
  rcases sM h with⟨h1,h2⟩|⟨rfl,rfl⟩
  ·exact(hR.obj id o' h1).ev hR (aF.qV hR _) (bI.bN _ _ _ _ (Nat.ne_of_lt h2)) fun B c hp=>rfl
  ·exact .arr e k ver [] hk (by simp) (.inl ⟨bI.a9 _ _ _,rfl⟩)
 inj i j B c c' hi hj h1 h2:=by
  simp at hi hj
  by_cases e1:i=H.length
  ·subst e1;rw[bI.a9]at h1;cases h1
  ·by_cases e2:j=H.length
   ·subst e2;rw[bI.a9]at h2;cases h2
   ·rw[bI.bN _ _ _ _ e1]at h1
    rw[bI.bN _ _ _ _ e2]at h2
    exact hR.inj i j B c c' (by omega) (by omega) h1 h2
 live:=hR.live
 apart a id B c ha hid hp:=by
  by_cases he:id=H.length
  ·subst he;rw[bI.a9]at hp;cases hp
  ·rw[bI.bN _ _ _ _ he]at hp
   exact hR.apart a id B c ha (by simp at hid;omega) hp
theorem Fk{x:AV}{es:List (List D)}(o:aT)(h:ko H x=some es):ko (H++[o]) x=some es:=by
 unfold ko at h⊢
 split at h
 ·exact h
 ·exact h
 ·exact h
 ·rename_i id ver off len
  cases ho:H[id]? with
  |none=>simp[ho]at h
  |some ob=>
   rw[List.getElem?_append_left (az ho),ho]
   simpa[ho]using h
 ·cases h
theorem tQ(hR:Rel H φ N w)(hT:cO H φ N w s a)(x y:Operand)(t t':TypeId)(htt:t'=t∨∃e',SE P t'=some e')(ho:o.op= .call {callee:= .builtin .append,args:=#[x,y],argTypes:=#[t,t']})(e:TypeId)(ht:SE P t=some e)
  (z:Value) (k b:Nat) (hi:TI P e=some (z,k,b)) (hz:z.cells.size=k) (hk0:0<k) (news:List (List D)) (hx:isNone (ao s x)=true)
  (hy:ko H (ao s y)=some news) (hk:∀c∈news,c.length=k) (hb:news.length* b≤140737488355328) (hm:news.length≤9223372036854775807):
  dd P o a w H φ N (.sl H.length 1 0 news.length) (H++[.arr e k 1 news]):=by
 obtain⟨A,hv⟩:=mC (aB hT x) hx
 have hR1:=hR.qV e k hk0
 have hS1:=aF.qV hR (.arr e k 0 [])
 have hsl:RA (H++[.arr e k 0 []]) (φ.put H.length none) N w (.sl H.length 0 0 ([]:List (List D)).length) (.slice A 0 0):=
  .sl _ _ _ _ _ _ _ (.arr e k 0 []) (by simp) (Nat.le_refl _) fun _=>⟨rfl,by simp[aT.len],.inl ⟨bI.a9 _ _ _,rfl,rfl,rfl⟩⟩
 obtain⟨v',w',φ',hr,h1,h2,h3⟩:=qj hR1 o.type t e ht z k b hi hz H.length 0 [] news (.slice A 0 0) (a.eval y) (ao s y) hsl ((aB hT y).since hR hS1) (by simp) (Fk _ hy) hk (by simpa using hb) (by simpa using hm)
 have hset:(H++[aT.arr e k 0 []]).set H.length (.arr e k (0+1) ([]++news))=H++[.arr e k 1 news]:=by simp
 rw[hset]at h1 h2 h3
 refine⟨v',w',φ',N,.inl ?_,h1,hS1.trans h2,by simpa using h3⟩
 rw[←nc ht htt]at hr
 simp[execOp,ho,resolve,invoke,Go.builtin,hv,hr]
theorem tM(hR:Rel H φ N w)(hT:cO H φ N w s a)(x y:Operand)(t t':TypeId)(ho:o.op= .call {callee:= .builtin .append,args:=#[x,y],argTypes:=#[t,t']})(e:TypeId)(ht:SE P t=some e)(hu:P.underlying t'=some .string)
  (z:Value) (b:Nat) (hi:TI P e=some (z,1,b)) (hz:z.cells.size=1) (id ver:Nat) (es:List (List D)) (sb:ByteArray) (hx:ao s x= .sl id ver 0 es.length) (hob:H[id]?=some (.arr e 1 ver es))
  (hy:ao s y= .d (.v (.string sb))) (hb:(es.length+(cC sb).length)* b≤140737488355328) (hm:es.length+(cC sb).length≤9223372036854775807):
  dd P o a w H φ N (.sl id (ver+1) 0 (es.length+(cC sb).length)) (H.set id (.arr e 1 (ver+1) (es++cC sb))):=by
 have hyv:a.eval y= .string sb:=by have:=aB hT y;rw[hy]at this;exact this.closed
 obtain⟨v',w',φ',hr,h1,h2,h3⟩:=tf hR o.type t t' e ht hu z b hi hz id ver es (a.eval x) sb (by rw[←hx];exact aB hT x) hob hb hm
 refine⟨v',w',φ',N,.inl ?_,h1,h2,h3⟩
 simp[execOp,ho,resolve,invoke,Go.builtin,hyv,hr]
theorem oE(hR:Rel H φ N w)(hT:cO H φ N w s a)(x y:Operand)(t t':TypeId)(ho:o.op= .call {callee:= .builtin .append,args:=#[x,y],argTypes:=#[t,t']})(e:TypeId)(ht:SE P t=some e)(hu:P.underlying t'=some .string)
  (z:Value) (b:Nat) (hi:TI P e=some (z,1,b)) (hz:z.cells.size=1) (sb:ByteArray) (hx:isNone (ao s x)=true)
  (hy:ao s y= .d (.v (.string sb))) (hb:(cC sb).length* b≤140737488355328) (hm:(cC sb).length≤9223372036854775807):
  dd P o a w H φ N (.sl H.length 1 0 (cC sb).length) (H++[.arr e 1 1 (cC sb)]):=by
 have hyv:a.eval y= .string sb:=by have:=aB hT y;rw[hy]at this;exact this.closed
 obtain⟨A,hv⟩:=mC (aB hT x) hx
 have hR1:=hR.qV e 1 (Nat.succ_pos 0)
 have hS1:=aF.qV hR (.arr e 1 0 [])
 have hsl:RA (H++[.arr e 1 0 []]) (φ.put H.length none) N w (.sl H.length 0 0 ([]:List (List D)).length) (.slice A 0 0):=
  .sl _ _ _ _ _ _ _ (.arr e 1 0 []) (by simp) (Nat.le_refl _) fun _=>⟨rfl,by simp[aT.len],.inl ⟨bI.a9 _ _ _,rfl,rfl,rfl⟩⟩
 obtain⟨v',w',φ',hr,h1,h2,h3⟩:=tf hR1 o.type t t' e ht hu z b hi hz H.length 0 [] (.slice A 0 0) sb hsl (by simp) (by simpa using hb) (by simpa using hm)
 have hset:(H++[aT.arr e 1 0 []]).set H.length (.arr e 1 (0+1) ([]++cC sb))=H++[.arr e 1 1 (cC sb)]:=by simp
 rw[hset]at h1 h2 h3
 refine⟨v',w',φ',N,.inl ?_,h1,hS1.trans h2,by simpa using h3⟩
 simp[execOp,ho,resolve,invoke,Go.builtin,hv,hyv,hr]
def ua(P:Program)(t:TypeId):Bool:=match P.underlying t with|some .string=>true|_=>false
theorem ua.get{P:Program}{t:TypeId}(h:ua P t=true):P.underlying t=some .string:=by
 unfold ua at h
 split at h
 ·assumption
 ·cases h
def o8(P:Program)(t t':TypeId)(k:Nat)(H:aa)(y:AV):Option (List (List D)):=if t'=t∨(SE P t').isSome=true then ko H y else match y with
 | .d (.v (.string b))=>if ua P t'=true∧k=1 then some (cC b)else none
 |_=>none
theorem BP(P:Program)(t:TypeId)(k:Nat)(H:aa)(y:AV):o8 P t t k H y=ko H y:=if_pos (.inl rfl)
theorem Cu(P:Program)(t t':TypeId)(k:Nat)(H:aa)(nn:Bool)(es:List (List D)):o8 P t t' k H (.d (.list nn es))=if t'=t then some es else(SE P t').bind fun _=>some es:=by
 unfold o8
 by_cases h:t'=t
 ·rw[if_pos (.inl h),if_pos h];rfl
 ·rw[if_neg h]
  cases hs:SE P t' with
  |none=>rw[if_neg (by simp[h])];rfl
  |some e=>rw[if_pos (.inr rfl)];rfl
theorem DQ(P:Program)(t t':TypeId)(k:Nat)(H:aa)(b:ByteArray):o8 P t t' k H (.d (.v (.string b)))=if t'=t then none else if ua P t'=true∧k=1 then some (cC b)else none:=by
 unfold o8
 by_cases h:t'=t
 ·rw[if_pos (.inl h),if_pos h];rfl
 ·rw[if_neg h]
  by_cases hs:(SE P t').isSome=true
  ·rw[if_pos (.inr hs)]
   have:ua P t'=false:=by
    obtain⟨e,he⟩:=Option.isSome_iff_exists.1 hs
    simp[ua,SE.get he]
   simp[this,ko]
  ·rw[if_neg (by simp[h]at hs⊢;simp[hs])]
end
def gw(place:Nat→Option (Nat×Nat))(cells:List AV):List (Nat×AV)→Option (List AV)
 |[]=>some cells
 |(i,x)::rest=>match place i,cellsOf x with
  |some (off,size),some cs=>if cs.length=size∧off+size≤cells.length then gw place (gX cells off cs) rest else none
  |_,_=>none
theorem zk(off:Nat):∀(l:List Value) (n:Nat) (cs:Array Value) (t:Nat),((l.zipIdx n).foldl (fun(cs:Array Value) (c:Value×Nat)=>cs.setIfInBounds (off+c.2) c.1) cs)[t]?=
  if off+n≤t∧t<off+n+l.length∧t<cs.size then l[t-(off+n)]? else cs[t]?
 |[],n,cs,t=>by simp;omega
 |c::l,n,cs,t=>by
  simp only[List.zipIdx_cons,List.foldl_cons]
  rw[zk off l (n+1) (cs.setIfInBounds (off+n) c) t]
  simp only[Array.size_setIfInBounds,List.length_cons]
  by_cases h1:t=off+n
  ·subst h1
   rw[if_neg (by omega)]
   by_cases h2:off+n<cs.size
   ·rw[if_pos (by omega)]
    simp[h2]
   ·rw[if_neg (by omega)]
    rw[Array.getElem?_eq_none (by simpa using h2),Array.getElem?_eq_none (by omega)]
  ·by_cases h3:off+(n+1)≤t∧t<off+(n+1)+l.length∧t<cs.size
   ·rw[if_pos h3,if_pos (by omega)]
    rw[show t-(off+n)=(t-(off+(n+1)))+1 by omega,List.getElem?_cons_succ]
   ·rw[if_neg h3,if_neg (by omega),Array.getElem?_setIfInBounds_ne (by omega)]
theorem ux(off:Nat):∀(l:List (Value×Nat)) (cs:Array Value),(l.foldl (fun(cs:Array Value) (c:Value×Nat)=>cs.setIfInBounds (off+c.2) c.1) cs).size=cs.size
 |[],cs=>rfl
 |c::l,cs=>by rw[List.foldl_cons,ux off l];simp
section
variable {P:Program} {o:Oper} {a:Act} {w:World} {H:aa} {φ:bI} {N:Addr→Prop} {s:Nat→AV}
theorem oo(place:Nat→Option (Nat×Nat)):∀(parts:List (Nat×AV)) (eH:List (Nat×Value)) (cells:List AV) (vs:Array Value) (out:List AV),parts.length=eH.length→
  (∀i (h1:i<parts.length) (h2:i<eH.length),(parts[i]).1=(eH[i]).1∧RA H φ N w (parts[i]).2 (eH[i]).2)→cells.length=vs.size→(∀i (h1:i<cells.length) (h2:i<vs.size),RA H φ N w (cells[i]) (vs[i]))→
  gw place cells parts=some out→∃us,Instr.fill place vs eH=some us∧out.length=us.size∧us.size=vs.size∧∀i (h1:i<out.length) (h2:i<us.size),RA H φ N w (out[i]) (us[i])
 |[],eH,cells,vs,out,hl,hp,hc,hr,h=>by
  have:eH=[]:=List.eq_nil_of_length_eq_zero hl.symm
  subst this
  cases h
  exact⟨vs,rfl,hc,rfl,hr⟩
 |(i,x)::rest,eH,cells,vs,out,hl,hp,hc,hr,h=>by
  cases eH with
  |nil=>cases hl
  |cons vp vrest=>
   obtain⟨i',v⟩:=vp
   have h0:=hp 0 (by simp) (by simp)
   simp only[List.getElem_cons_zero]at h0
   obtain⟨rfl,hx⟩:=h0
   simp only[gw]at h
   cases hpl:place i with
   |none=>simp[hpl]at h
   |some q=>
    obtain⟨off,size⟩:=q
    cases hcs:cellsOf x with
    |none=>simp[hpl,hcs]at h
    |some cs=>
     simp only[hpl,hcs]at h
     split at h
     ·rename_i hsz
      obtain⟨hcl,hcr,_⟩:=nL hx hcs
      have hsize:(v.cells.zipIdx.foldl (fun cs (c,j)=>cs.setIfInBounds (off+j) c) vs).size=vs.size:=by
       rw[←Array.foldl_toList,Array.toList_zipIdx]
       exact ux off _ vs
      have hget:∀t,(v.cells.zipIdx.foldl (fun cs (c,j)=>cs.setIfInBounds (off+j) c) vs)[t]?=if off≤t∧t<off+v.cells.size∧t<vs.size then v.cells[t-off]? else vs[t]?:=by
       intro t
       rw[←Array.foldl_toList,Array.toList_zipIdx]
       have:=zk off v.cells.toList 0 vs t
       simpa using this
      obtain⟨us,hu,h1,h2,h3⟩:=oo place rest vrest (gX cells off cs) (v.cells.zipIdx.foldl (fun cs (c,j)=>cs.setIfInBounds (off+j) c) vs) out (by simpa using hl)
       (fun j hj1 hj2=>by have:=hp (j+1) (by simpa using hj1) (by simpa using hj2);simpa using this) (by rw[eT _ _ _ (by omega),hsize];exact hc) (fun j hj1 hj2=>by
        have hsp:=jo cells off cs (by omega) j
        rw[List.getElem?_eq_getElem hj1]at hsp
        have hg:=hget j
        rw[Array.getElem?_eq_getElem hj2]at hg
        rw[hsize]at hj2
        by_cases a1:j<off
        ·rw[if_pos a1,List.getElem?_eq_getElem (by omega)]at hsp
         rw[if_neg (by omega),Array.getElem?_eq_getElem hj2]at hg
         rw[Option.some.inj hsp,Option.some.inj hg]
         exact hr j (by omega) hj2
        ·rw[if_neg a1]at hsp
         by_cases a2:j<off+cs.length
         ·rw[if_pos a2,List.getElem?_eq_getElem (by omega)]at hsp
          rw[if_pos (by omega),Array.getElem?_eq_getElem (by omega)]at hg
          rw[Option.some.inj hsp,Option.some.inj hg]
          exact hcr _ (by omega) (by omega)
         ·rw[if_neg a2,List.getElem?_eq_getElem (by omega)]at hsp
          rw[if_neg (by omega),Array.getElem?_eq_getElem hj2]at hg
          rw[Option.some.inj hsp,Option.some.inj hg]
          exact hr j (by omega) hj2) h
      refine⟨us,?_,h1,h2.trans hsize,h3⟩
      have hno:(v.cells.size !=size||off+v.cells.size>vs.size)=false:=by simp;omega
      have e:Instr.fill place vs ((i,v)::vrest)=Instr.fill place (v.cells.zipIdx.foldl (fun cs (c,j)=>cs.setIfInBounds (off+j) c) vs) vrest:=by
       have hn1:v.cells.size=size:=by omega
       have hn2:¬(off+v.cells.size>vs.size):=by omega
       simp[Instr.fill,hpl,hn1]
       intro hh;omega
      rw[e,hu]
     ·cases h
def SP(P:Program)(t:TypeId):Option (List (Nat×Nat)):=
 match P.underlying t with
 |some (.struct fields)=>fields.toList.mapM fun f=>(P.info? f.type).map fun i=>(f.offset,i.size)
 |_=>none
abbrev eH(a:Act)(parts:Array (Nat×Operand)):Array (Nat×Value):=parts.map fun(i,x)=>(i,a.eval x)
def dz(s:Nat→AV)(parts:Array (Nat×Operand)):List (Nat×AV):=parts.toList.map fun p=>(p.1,ao s p.2)
theorem pF(hT:cO H φ N w s a)(parts:Array (Nat×Operand)):(dz s parts).length=(eH a parts).toList.length∧
  ∀i (h1:i<(dz s parts).length) (h2:i<(eH a parts).toList.length),((dz s parts)[i]).1=((eH a parts).toList[i]).1∧
   RA H φ N w ((dz s parts)[i]).2 ((eH a parts).toList[i]).2:=by
 refine⟨by simp[dz],fun i h1 h2=>?_⟩
 simp[dz]
 exact aB hT _
theorem qS(hR:Rel H φ N w)(hT:cO H φ N w s a)(t:TypeId)(parts:Array (Nat×Operand))(ho:o.op= .build t parts)(places:List (Nat×Nat))(hp:SP P t=some places)(z:Value)(k b:Nat)(hi:TI P t=some (z,k,b))
  (hz:z.cells.all Value.oneCell'=true) (out:List AV) (h:gw (places.toArray[·]?) (cL z.cells) (dz s parts)=some out):dd P o a w H φ N (.agg out) H:=by
 obtain⟨i,hii,hzz,rfl,rfl⟩:=TI.info hi
 unfold SP at hp
 split at hp
 ·rename_i fields hu
  obtain⟨h1,h2⟩:=pF hT parts
  obtain⟨us,hf,h3,_,h4⟩:=oo (H:=H) (φ:=φ) (N:=N) (w:=w) (places.toArray[·]?) (dz s parts) (eH a parts).toList (cL z.cells) z.cells out h1 h2 (by simp[cL]) (fun j h5 h6=>by
   simp only[cL,List.getElem_map,Array.getElem_toList]
   rw[Array.all_eq_true]at hz
   exact .d (.v _ (hz j h6))) h
  refine .same hR (.agg out us h3 h4) ?_
  have hb:P.built t (eH a parts).toList=some us:=by
   unfold Program.built
   simp only[hii,hu,hzz,hp,hf]
  simp only[execOp,ho,Sem.run_bind,run_build w t _ us hb,Result.andThen_ok]
  rfl
 ·cases hp
theorem r3(hR:Rel H φ N w)(hT:cO H φ N w s a)(t:TypeId)(parts:Array (Nat×Operand))(ho:o.op= .build t parts)(n:Nat)(e:TypeId)(hp:AE P t=some (n,e))(z ze:Value)(k b ke be:Nat)(hi:TI P t=some (z,k,b))
  (hie:TI P e=some (ze,ke,be)) (hz:z.cells.all Value.oneCell'=true) (out:List AV) (h:gw (fun i=>some (i* ke,ke)) (cL z.cells) (dz s parts)=some out):dd P o a w H φ N (.agg out) H:=by
 obtain⟨i,hii,hzz,rfl,rfl⟩:=TI.info hi
 obtain⟨ie,hie',hze,rfl,rfl⟩:=TI.info hie
 obtain⟨h1,h2⟩:=pF hT parts
 obtain⟨us,hf,h3,_,h4⟩:=oo (H:=H) (φ:=φ) (N:=N) (w:=w) (fun i=>some (i* ie.size,ie.size)) (dz s parts) (eH a parts).toList (cL z.cells) z.cells out h1 h2 (by simp[cL]) (fun j h5 h6=>by
  simp only[cL,List.getElem_map,Array.getElem_toList]
  rw[Array.all_eq_true]at hz
  exact .d (.v _ (hz j h6))) h
 refine .same hR (.agg out us h3 h4) ?_
 have hb:P.built t (eH a parts).toList=some us:=by
  unfold Program.built
  simp only[hii,AE.get hp,hzz,hie',hf]
 simp only[execOp,ho,Sem.run_bind,run_build w t _ us hb,Result.andThen_ok]
 rfl
def chunk(n k:Nat)(ds:List D):List (List D):=(List.range n).map fun i=>(ds.drop (i* k)).take k
theorem cc(n k:Nat)(ds:List D):(chunk n k ds).length=n:=by simp[chunk]
theorem mJ{n k:Nat}{ds:List D}(h:ds.length=n* k):∀e∈chunk n k ds,e.length=k:=by
 intro e he
 obtain⟨i,hi,rfl⟩:=List.mem_map.1 he
 simp at hi
 have:=Nat.mul_le_mul_right k (show i+1≤n by omega)
 rw[Nat.add_mul]at this
 simp;omega
def j5(z:Value)(n:Nat):List AV:=(List.range n).map fun i=> .d (.v (z.cells[i%z.cells.size]!))
theorem mb(hR:Rel H φ N w)(hT:cO H φ N w s a)(t:TypeId)(n:Nat)(parts:Array (Nat×Operand))(e:TypeId)(ht:SE P t=some e)(z:Value)(k b:Nat)(hi:TI P e=some (z,k,b))
  (hz:z.cells.size=k) (h1:z.cells.all Value.oneCell'=true) (h24:n* k≤16777216) (hn:0<n* k) (out:List AV) (h:gw (fun i=>some (i* k,k)) (j5 z (n* k)) (dz s parts)=some out):
  ∃us:Array Value,(Instr.buildSlice t n (eH a parts)).run P w= .ok (.slice (some ⟨w.heap.size,0,none⟩) n n) (w.alloc (.cells us e))∧us.size=n* k∧out.length=n* k∧
   ∀i (h1:i<out.length) (h2:i<us.size),RA H φ N w (out[i]) (us[i]):=by
 obtain⟨i,hii,hzz,rfl,rfl⟩:=TI.info hi
 obtain⟨h2,h3⟩:=pF hT parts
 obtain⟨us,hf,h4,h5,h6⟩:=oo (H:=H) (φ:=φ) (N:=N) (w:=w) (fun j=>some (j* i.size,i.size)) (dz s parts) (eH a parts).toList (j5 z (n* i.size)) ((Array.range (n* i.size)).map (z.cells[·%z.cells.size]!)) out h2 h3
  (by simp[j5]) (fun j g1 g2=>by
   simp only[j5,List.getElem_map,List.getElem_range,Array.getElem_map,Array.getElem_range]
   refine .d (.v _ ?_)
   have hpos:0<z.cells.size:=by
    rcases Nat.eq_zero_or_pos z.cells.size with h0|h0
    ·rw[hz]at h0;simp[h0]at hn
    ·exact h0
   rw[Array.all_eq_true]at h1
   have hlt:=Nat.mod_lt j hpos
   rw[getElem!_pos z.cells _ hlt]
   exact h1 _ hlt) h
 refine⟨us,run_buildSlice w t e n _ us i z (SE.get ht) hii hzz (by omega) (by omega) hf,by rw[h5];simp,by rw[h4,h5];simp,h6⟩
theorem tZ(hR:Rel H φ N w)(hT:cO H φ N w s a)(t:TypeId)(n:Nat)(parts:Array (Nat×Operand))(ho:o.op= .buildSlice t n parts)(e:TypeId)(ht:SE P t=some e)(z:Value)(k b:Nat)(hi:TI P e=some (z,k,b))
  (hz:z.cells.size=k) (h1:z.cells.all Value.oneCell'=true) (h24:n* k≤16777216) (hn:0<n* k) (out:List AV) (h:gw (fun i=>some (i* k,k)) (j5 z (n* k)) (dz s parts)=some out)
  (ds:List D) (hd:pz out=some ds):dd P o a w H φ N (.d (.list true (chunk n k ds))) H:=by
 obtain⟨us,hrun,hu,hol,hr⟩:=mb hR hT t n parts e ht z k b hi hz h1 h24 hn out h
 have hS:=aF.fixed hR (.cells us e) (fun a=>N a∨(a.block=w.heap.size∧a.spot=none∧a.off<us.size)) (fun _ h=> .inl h) (fun _ h=>h.imp_right And.left)
 have hdl:ds.length=n* k:=by rw[←hol,kY hd];simp
 have hk0:0<k:=Nat.pos_of_mul_pos_left hn
 refine⟨_,_,φ,_,.inl (by simp only[execOp,ho,Sem.run_bind,hrun,Result.andThen_ok];rfl),hR.fixed us e (0,0),hS,.d ?_⟩
 have hrow:∀i j,i<n→j<k→i* k+j<us.size:=fun i j hi hj=>by rw[hu];exact eI hj hi
 have key:=RD.list (N:=fun a=>N a∨(a.block=w.heap.size∧a.spot=none∧a.off<us.size)) (w:=w.alloc (.cells us e)) true (chunk n k ds) ⟨w.heap.size,0,none⟩ n k (fun i j=>us.getD (i* k+j) undef)
  (by rw[cc];exact Nat.le_refl _) (mJ hdl) (fun i j hi hj=>by
   rw[cc]at hi
   rw[add_plain]
   simp only[Nat.zero_add]
   refine⟨.inr (by simpa using hrow i j hi hj),?_⟩
   rw[World.cell?_alloc_new]
   simp[Array.getD,hrow i j hi hj]) (fun i hi j hj=>by
   rw[cc]at hi
   have hj':j<k:=by
    have hmem:(chunk n k ds)[i]'(by rw[cc];exact hi)∈chunk n k ds:=List.getElem_mem _
    rw[mJ hdl _ hmem]at hj
    exact hj
   have hlt:=hrow i j hi hj'
   have hra:=hr (i* k+j) (by omega) hlt
   have hod:out[i* k+j]'(by omega)= .d (ds[i* k+j]'(by omega)):=by
    have:=kY hd
    simp[this]
   rw[hod]at hra
   cases hra with
   |d hrd=>
   have e1:((chunk n k ds)[i]'(by rw[cc];exact hi))[j]'hj=ds[i* k+j]'(by omega):=by simp[chunk]
   rw[e1]
   simp only[Array.getD,hlt,dif_pos]
   exact hrd.since hR hS)
 rw[cc]at key
 exact key
theorem oJ(hR:Rel H φ N w)(hT:cO H φ N w s a)(t:TypeId)(n:Nat)(parts:Array (Nat×Operand))(ho:o.op= .buildSlice t n parts)(e:TypeId)(ht:SE P t=some e)(z:Value)(k b:Nat)(hi:TI P e=some (z,k,b))
  (hz:z.cells.size=k) (h1:z.cells.all Value.oneCell'=true) (h24:n* k≤16777216) (hn:0<n* k) (out:List AV) (h:gw (fun i=>some (i* k,k)) (j5 z (n* k)) (dz s parts)=some out)
  (ds:List D) (hd:pz out=some ds):dd P o a w H φ N (.sl H.length 0 0 n) (H++[.arr e k 0 (chunk n k ds)]):=by
 obtain⟨us,hrun,hu,hol,hr⟩:=mb hR hT t n parts e ht z k b hi hz h1 h24 hn out h
 have hdl:ds.length=n* k:=by rw[←hol,kY hd];simp
 have hk0:0<k:=Nat.pos_of_mul_pos_left hn
 have hnm:n≤maxLen:=by
  have:=Nat.le_mul_of_pos_right n hk0
  simp only[maxLen];omega
 have hlen:n=(chunk n k ds).length:=(cc n k ds).symm
 refine⟨_,_,_,N,.inl (by simp only[execOp,ho,Sem.run_bind,hrun,Result.andThen_ok];rfl),hR.CU e k (chunk n k ds) us hk0 (mJ hdl) (by rw[cc];exact hnm) (by rw[cc];exact hu) (fun i hi j hj=>?_),aF.new hR _ _ _,?_⟩
 ·rw[cc]at hi
  have hj':j<k:=by
   have hmem:(chunk n k ds)[i]'(by rw[cc];exact hi)∈chunk n k ds:=List.getElem_mem _
   rw[mJ hdl _ hmem]at hj
   exact hj
  have hlt:i* k+j<us.size:=by rw[hu];exact eI hj' hi
  have hra:=hr (i* k+j) (by omega) hlt
  have hod:out[i* k+j]'(by omega)= .d (ds[i* k+j]'(by omega)):=by
   have:=kY hd
   simp[this]
  rw[hod]at hra
  cases hra with
  |d hrd=>
  refine⟨us[i* k+j],by simp[hlt],?_⟩
  have e1:((chunk n k ds)[i]'(by rw[cc];exact hi))[j]'hj=ds[i* k+j]'(by omega):=by simp[chunk]
  rw[e1]
  exact hrd
 ·refine .sl _ _ _ _ _ _ _ (.arr e k 0 (chunk n k ds)) (by simp) (Nat.le_refl _) fun _=>⟨rfl,by simp[aT.len,cc],.inr ⟨w.heap.size,(chunk n k ds).length,bI.a9 _ _ _,by rw[cc];omega,by simp,by rw[cc];simp⟩⟩
theorem wS(hR:Rel H φ N w)(hT:cO H φ N w s a)(t:TypeId)(l c:Operand)(ho:o.op= .makeSlice t l c)(e:TypeId)(ht:SE P t=some e)(z:Value)(k b:Nat)(hi:TI P e=some (z,k,b))
  (hk:0<k) (hz:z.cells.size=k) (h1:z.cells.all Value.oneCell'=true) (kl kc:IntKind) (n:Int) (hl:closed (ao s l)=some (.int kl n)) (hc:closed (ao s c)=some (.int kc n))
  (h0:0≤n) (hn:n≤1000000000000) (hb:n* b≤140737488355328):dd P o a w H φ N (.sl H.length 0 0 n.toNat) (H++[.arr e k 0 (List.replicate n.toNat (z.cells.toList.map D.v))]):=by
 have hl':=cI (aB hT l) hl
 have hc':=cI (aB hT c) hc
 obtain⟨i,hii,hzz,rfl,rfl⟩:=TI.info hi
 obtain⟨m,rfl⟩:=Int.eq_ofNat_of_zero_le h0
 simp only[Int.toNat_natCast]
 have wm:IntKind.i64.wrap (m:Int)=(m:Int):=by rw[IntKind.wrap_i64];omega
 have hnew:∀ob,Sem.run P (Sem.new ob Sem.pure) w= .ok w.heap.size (w.alloc ob):=fun _=>rfl
 have hb2:m* i.bytes≤140737488355328:=by
  have:((m* i.bytes:Nat):Int)≤140737488355328:=by rw[Int.natCast_mul];exact hb
  omega
 have hb3:¬(281474976710656<(i.bytes:Int)* (m:Int)):=by rw[Int.mul_comm];omega
 have hb4:¬(m* i.bytes>roomBytes):=by show ¬(m* i.bytes>2^47);omega
 have n1:¬(m:Int)<0:=by omega
 have hrun:(Instr.makeSlice t (.int kl m) (.int kc m)).run P w= .ok (.slice (some ⟨w.heap.size,0,none⟩) m m) (w.alloc (.cells ((Array.range (m* i.size)).map (z.cells[·%z.cells.size]!)) e)):=by
  by_cases hm0:m=0
  ·subst hm0
   have he:∀f:Nat→Value,Array.map f (Array.range 0)=#[]:=fun f=>by simp
   simp[Instr.makeSlice,run_underlying (SE.get ht),sizeOf,typeInfo,hii,asInt,asIntOf,askRoom,newRow,newObj,Result.andThen,Sem.run_bind,IntKind.wrap_i64,hnew,he]
  ·have hms:¬(m* i.size=0):=by
    intro h
    rcases Nat.mul_eq_zero.1 h with h|h<;>omega
   simp[Instr.makeSlice,run_underlying (SE.get ht),sizeOf,typeInfo,hii,hzz,zeroValue,asInt,asIntOf,askRoom,newRow,newObj,Result.andThen,Sem.run_bind,wm,n1,hb3,hb4,hms,hnew]
 have hus:((Array.range (m* i.size)).map (z.cells[·%z.cells.size]!)).size=m* i.size:=by simp
 refine⟨.slice (some ⟨w.heap.size,0,none⟩) m m,_,_,N,.inl (by simp only[execOp,ho,hl',hc',Sem.run_bind,hrun,Result.andThen_ok];rfl),hR.CU e i.size (List.replicate m (z.cells.toList.map D.v)) ((Array.range (m* i.size)).map (z.cells[·%z.cells.size]!)) hk (fun cs hcs=>?_) (by rw[List.length_replicate];simp only[maxLen];omega) (by rw[List.length_replicate];exact hus) (fun i' hi' j hj=>?_),aF.new hR _ _ _,?_⟩
 ·rw[List.eq_of_mem_replicate hcs,List.length_map,Array.length_toList,hz]
 ·rw[List.length_replicate]at hi'
  have hrow:(List.replicate m (z.cells.toList.map D.v))[i']'(by rw[List.length_replicate];exact hi')=z.cells.toList.map D.v:=List.getElem_replicate ..
  have hj':j<i.size:=by rw[hrow,List.length_map,Array.length_toList,hz]at hj;exact hj
  have hjz:j<z.cells.size:=by omega
  refine⟨z.cells[j],?_,?_⟩
  ·have hlt:=eI hj' hi'
   have hmod:(i'* i.size+j)%z.cells.size=j:=by rw[hz,Nat.mul_comm,Nat.mul_add_mod,Nat.mod_eq_of_lt hj']
   simp only[Array.getElem?_map,Array.getElem?_range,hlt,if_true,Option.map_some,hmod]
   rw[getElem!_pos z.cells _ hjz]
  ·have e1:((List.replicate m (z.cells.toList.map D.v))[i']'(by rw[List.length_replicate];exact hi'))[j]'hj= .v z.cells[j]:=by
    have:∀(L:List D) (hL:L=z.cells.toList.map D.v) (hj:j<L.length),L[j]= .v z.cells[j]:=by
     intro L hL hj
     subst hL
     simp
    exact this _ hrow hj
   rw[e1]
   refine .v _ ?_
   rw[Array.all_eq_true]at h1
   exact h1 j hjz
 ·refine .sl _ _ _ _ _ _ _ (.arr e i.size 0 (List.replicate m (z.cells.toList.map D.v))) (by simp) (Nat.le_refl _) fun _=>⟨rfl,by simp[aT.len],.inr ⟨w.heap.size,(List.replicate m (z.cells.toList.map D.v)).length,bI.a9 _ _ _,by rw[List.length_replicate];omega,by simp,by rw[List.length_replicate];simp⟩⟩
theorem ny(hR:Rel H φ N w)(t:TypeId)(ho:o.op= .buildSlice t 0 #[])(e:TypeId)(ht:SE P t=some e)(z:Value)(k b:Nat)(hi:TI P e=some (z,k,b)):dd P o a w H φ N .eS H:=by
 obtain⟨i,hii,hzz,rfl,rfl⟩:=TI.info hi
 refine⟨.slice (some ⟨w.heap.size,0,none⟩) 0 0,w.alloc (.cells #[] e),φ,fun a=>N a∨(a.block=w.heap.size∧a.spot=none∧a.off<(#[]:Array Value).size),.inl ?_,hR.fixed #[] e (0,0),aF.fixed hR _ _ (fun _ h=> .inl h) (fun _ h=>h.imp_right And.left),.eS _⟩
 have he:(Array.map (fun x:Nat=>(default:Value)) (Array.range 0))=#[]:=by simp
 simp[execOp,ho,Instr.buildSlice,run_underlying (SE.get ht),sizeOf,typeInfo,hii,Instr.fill,newRow,newObj,he]
 rfl
def bO(s:Nat→AV):Option Operand→Option Int
 |none=>some 0
 |some x=>match closed (ao s x)with|some (.int _ n)=>some n|_=>none
def eg(s:Nat→AV)(len:Nat):Option Operand→Option Int
 |none=>some len
 |some x=>match closed (ao s x)with|some (.int _ n)=>some n|_=>none
theorem ic(hT:cO H φ N w s a){x:Operand}{n:Int}(h:(match closed (ao s x)with|some (.int _ n)=>some n|_=>none)=some n)(y:Nat)(code:BoundsCode)(h0:0≤n)(h1:n≤y):
  (Instr.sliceBound (a.eval x) y code).run P w= .ok n.toNat w:=by
 split at h
 ·rename_i k m hc
  cases h
  rw[cI (aB hT x) hc]
  simp[Instr.sliceBound,asIntOf,h0,h1]
 ·cases h
theorem jC(hT:cO H φ N w s a)(isS:Bool){lo hi:Option Operand}(len cap:Nat){l h:Int}(hl:bO s lo=some l)(hh:eg s len hi=some h)(h0:0≤l)(h1:l≤h)(h2:h≤cap):
  (Instr.sliceBounds isS len cap (lo.map a.eval) (hi.map a.eval) none).run P w= .ok (l.toNat,h.toNat,cap) w:=by
 cases lo with
 |none=>
  cases hl
  cases hi with
  |none=>cases hh;simp[Instr.sliceBounds]
  |some y=>
   have:=ic (P:=P) hT hh cap (if isS then .sliceAcap else .sliceAlen) (by omega) h2
   cases isS<;>simp_all [Instr.sliceBounds]
 |some x=>
  cases hi with
  |none=>
   cases hh
   have hx:=ic (P:=P) hT hl len .sliceB h0 (by omega)
   simp_all [Instr.sliceBounds]
  |some y=>
   have hy:=ic (P:=P) hT hh cap (if isS then .sliceAcap else .sliceAlen) (by omega) h2
   have hx:=ic (P:=P) hT hl h.toNat .sliceB h0 (by omega)
   cases isS<;>simp_all [Instr.sliceBounds]
theorem xi(hR:Rel H φ N w)(hT:cO H φ N w s a)(t:TypeId)(x:Operand)(lo hi:Option Operand)(ho:o.op= .slice t x lo hi none)(hu:P.underlying t=some .string)(b:ByteArray)(hx:closed (ao s x)=some (.string b))
  (l h:Int) (hl:bO s lo=some l) (hh:eg s b.size hi=some h) (h0:0≤l) (h1:l≤h) (h2:h≤b.size):dd P o a w H φ N (.d (.v (.string (b.extract l.toNat h.toNat)))) H:=by
 have hv:=cI (aB hT x) hx
 refine .same hR (.d (.v _ rfl)) ?_
 simp[execOp,ho,hv,Instr.sliceAt,Instr.slice,run_underlying hu,jC hT false b.size b.size hl hh h0 h1 h2]
theorem tN(hR:Rel H φ N w)(hT:cO H φ N w s a)(t:TypeId)(x:Operand)(lo hi:Option Operand)(ho:o.op= .slice t x lo hi none)(e:TypeId)(ht:SE P t=some e)(z:Value)(k b:Nat)(hi':TI P e=some (z,k,b))
  (nn:Bool) (es:List (List D)) (hx:ao s x= .d (.list nn es)) (hes:∀c∈es,c.length=k) (l h:Int) (hl:bO s lo=some l) (hh:eg s es.length hi=some h) (h0:0≤l) (h1:l≤h) (h2:h≤es.length):
  dd P o a w H φ N (.d (.list false ((es.take h.toNat).drop l.toNat))) H:=by
 have hxa:=aB hT x
 rw[hx]at hxa
 generalize hv:a.eval x=v at hxa
 cases hxa with
 |d hd=>
 cases hd with
 |nil A c hA=>
  simp only[List.length_nil]at h2 hh
  have hl0:l=0:=by omega
  have hh0:h=0:=by omega
  subst hl0 hh0
  refine .same hR (x:= .slice (if c=0 then A else A.map (·.add (0* k))) 0 c) (by simp only[List.take_nil,List.drop_nil];exact .d (.nil _ _ fun hn=>by by_cases hc:c=0;exact hc;rw[if_neg hc]at hn;exact hA (by simpa using hn))) ?_
  simp[execOp,ho,hv,Instr.sliceAt,Instr.slice,run_underlying (SE.get ht),jC hT true 0 c hl hh (by omega) (by omega) (by omega),TI.sizeOf hi']
 |list _ _ ad cap k' c hc hk' hcell hrd=>
  have hlen:(((es.take h.toNat).drop l.toNat)).length=h.toNat-l.toNat:=by simp;omega
  refine .same hR (x:= .slice (if cap=l.toNat then some ad else some (ad.add (l.toNat* k))) (h.toNat-l.toNat) (cap-l.toNat)) (.d ?_) ?_
  ·by_cases hemp:h.toNat-l.toNat=0
   ·have:(es.take h.toNat).drop l.toNat=[]:=List.eq_nil_of_length_eq_zero (by omega)
    rw[this,hemp]
    exact .nil _ _ (fun hn=>by split at hn<;>cases hn)
   ·have hk'':k'=k:=by
     have h3:0<es.length:=by omega
     rw[←hk' _ (List.getElem_mem h3),hes _ (List.getElem_mem h3)]
    subst hk''
    rw[if_neg (by omega),←hlen]
    refine .list false _ (ad.add (l.toNat* k')) _ k' (fun i j=>c (l.toNat+i) j) (by rw[hlen];omega) (fun e he=>hes e (List.mem_of_mem_take (List.mem_of_mem_drop he))) (fun i j hi hj=>?_) (fun i hi j hj=>?_)
    ·rw[hlen]at hi
     rw[add_add]
     have:=hcell (l.toNat+i) j (by omega) hj
     rw[Nat.add_mul,Nat.add_assoc]at this
     exact this
    ·have hi2:i<h.toNat-l.toNat:=by rw[←hlen];exact hi
     have hge:((es.take h.toNat).drop l.toNat)[i]'hi=es[l.toNat+i]'(by omega):=by simp
     have hj2:j<(es[l.toNat+i]'(by omega)).length:=by rw[←hge];exact hj
     have:=hrd (l.toNat+i) (by omega) j hj2
     simpa[hge]using this
  ·simp[execOp,ho,hv,Instr.sliceAt,Instr.slice,run_underlying (SE.get ht),jC hT true es.length cap hl hh h0 h1 (by omega),TI.sizeOf hi']
theorem qt(hT:cO H φ N w s a){lo:Option Operand}{hi mx:Operand}(len cap:Nat){l h m:Int}(hl:bO s lo=some l)(hh:bO s (some hi)=some h)(hm:bO s (some mx)=some m)(h0:0≤l)(h1:l≤h)(h2:h≤m)(h3:m≤cap):
  (Instr.sliceBounds true len cap (lo.map a.eval) (some (a.eval hi)) (some (a.eval mx))).run P w= .ok (l.toNat,h.toNat,m.toNat) w:=by
 have hx:=ic (P:=P) hT hm cap .slice3Acap (by omega) h3
 have hy:=ic (P:=P) hT hh m.toNat .slice3B (by omega) (by omega)
 cases lo with
 |none=>cases hl;simp_all [Instr.sliceBounds]
 |some x=>
  have hz:=ic (P:=P) hT hl h.toNat .slice3C h0 (by omega)
  simp_all [Instr.sliceBounds]
theorem te(hR:Rel H φ N w)(hT:cO H φ N w s a)(t:TypeId)(x:Operand)(lo:Option Operand)(hi mx:Operand)(ho:o.op= .slice t x lo (some hi) (some mx))(e:TypeId)(ht:SE P t=some e)(z:Value)(k b:Nat)(hi':TI P e=some (z,k,b))
  (nn:Bool) (es:List (List D)) (hx:ao s x= .d (.list nn es)) (hes:∀c∈es,c.length=k) (l h m:Int) (hl:bO s lo=some l) (hh:bO s (some hi)=some h) (hm:bO s (some mx)=some m) (h0:0≤l) (h1:l≤h) (h2:h≤m) (h3:m≤es.length):
  dd P o a w H φ N (.d (.list false ((es.take h.toNat).drop l.toNat))) H:=by
 have hxa:=aB hT x
 rw[hx]at hxa
 generalize hv:a.eval x=v at hxa
 cases hxa with
 |d hd=>
 cases hd with
 |nil A c hA=>
  simp only[List.length_nil]at h3
  have hl0:l=0:=by omega
  have hh0:h=0:=by omega
  have hm0:m=0:=by omega
  subst hl0 hh0 hm0
  refine .same hR (x:= .slice A 0 0) (by simp only[List.take_nil,List.drop_nil];exact .d (.nil _ _ fun _=>rfl)) ?_
  have:=qt (P:=P) hT 0 c hl hh hm (by omega) (by omega) (by omega) (by omega)
  simp[execOp,ho,hv,Instr.sliceAt,Instr.slice,run_underlying (SE.get ht),this,TI.sizeOf hi']
 |list _ _ ad cap k' c hc hk' hcell hrd=>
  have hlen:(((es.take h.toNat).drop l.toNat)).length=h.toNat-l.toNat:=by simp;omega
  refine .same hR (x:= .slice (if m.toNat=l.toNat then some ad else some (ad.add (l.toNat* k))) (h.toNat-l.toNat) (m.toNat-l.toNat)) (.d ?_) ?_
  ·by_cases hemp:h.toNat-l.toNat=0
   ·have:(es.take h.toNat).drop l.toNat=[]:=List.eq_nil_of_length_eq_zero (by omega)
    rw[this,hemp]
    exact .nil _ _ (fun hn=>by split at hn<;>cases hn)
   ·have hk'':k'=k:=by
     have h3:0<es.length:=by omega
     rw[←hk' _ (List.getElem_mem h3),hes _ (List.getElem_mem h3)]
    subst hk''
    rw[if_neg (by omega),←hlen]
    refine .list false _ (ad.add (l.toNat* k')) _ k' (fun i j=>c (l.toNat+i) j) (by rw[hlen];omega) (fun e he=>hes e (List.mem_of_mem_take (List.mem_of_mem_drop he))) (fun i j hi hj=>?_) (fun i hi j hj=>?_)
    ·rw[hlen]at hi
     rw[add_add]
     have:=hcell (l.toNat+i) j (by omega) hj
     rw[Nat.add_mul,Nat.add_assoc]at this
     exact this
    ·have hi2:i<h.toNat-l.toNat:=by rw[←hlen];exact hi
     have hge:((es.take h.toNat).drop l.toNat)[i]'hi=es[l.toNat+i]'(by omega):=by simp
     have hj2:j<(es[l.toNat+i]'(by omega)).length:=by rw[←hge];exact hj
     have:=hrd (l.toNat+i) (by omega) j hj2
     simpa[hge]using this
  ·have:=qt (P:=P) hT es.length cap hl hh hm h0 h1 h2 (by omega)
   simp[execOp,ho,hv,Instr.sliceAt,Instr.slice,run_underlying (SE.get ht),this,TI.sizeOf hi']
end
def MT(P:Program)(t:TypeId):Option (IntKind×TypeId×TypeId):=
 match P.underlying t with
 |some (.map k e)=>(match P.underlying k with|some (.int kk)=>some (kk,k,e)|_=>none)
 |_=>none
theorem MT.get{P:Program}{t k e:TypeId}{kk:IntKind}(h:MT P t=some (kk,k,e)):P.underlying t=some (.map k e)∧P.underlying k=some (.int kk):=by
 unfold MT at h
 split at h
 ·rename_i k' e' hk
  split at h
  ·rename_i kk' hkk
   cases h
   exact⟨hk,hkk⟩
  ·cases h
 ·cases h
def iz(n:Int):List (Int×AV)→Nat→Option (Nat×AV)
 |[],_=>none
 |(m,v)::r,i=>if n=m then some (i,v)else iz n r (i+1)
def gQ(n:Int)(es:List (Int×AV)):Option AV:=(iz n es 0).map (·.2)
def my(n:Int)(v:AV)(es:List (Int×AV)):List (Int×AV):=match iz n es 0 with|some (i,_)=>es.set i (n,v)|none=>es++[(n,v)]
theorem lN{kk:IntKind}{n:Int}{R:AV→Value→Prop}:∀(es:List (Int×AV)) (l:List MapEntry) (i:Nat),l.length=es.length→
  (∀j (h1:j<es.length) (h2:j<l.length),(l[j]).key= .int kk (es[j]).1∧R (es[j]).2 (l[j]).val)→
  (iz n es i=none∧Instr.findNow (.int kk) (.int kk n) l i=some none)∨
  ∃j av x,j<es.length∧iz n es i=some (i+j,av)∧es[j]?=some (n,av)∧Instr.findNow (.int kk) (.int kk n) l i=some (some (i+j,x))∧R av x
 |[],[],i,_,_=> .inl ⟨rfl,rfl⟩
 |[],_::_,i,h,_=>by simp at h
 |_::_,[],i,h,_=>by simp at h
 |(m,v)::es,e::l,i,h,hh=>by
  have h0:=hh 0 (by simp) (by simp)
  simp only[List.getElem_cons_zero]at h0
  have hbf:n≠m→(n==m)=false:=fun h=>by simpa using h
  by_cases hn:n=m
  ·subst hn
   refine .inr ⟨0,v,e.val,by simp,by simp[iz],by simp,?_,h0.2⟩
   simp[Instr.findNow,Instr.sameNow,h0.1]
  ·rcases lN (kk:=kk) (n:=n) (R:=R) es l (i+1) (by simpa using h) (fun j h1 h2=>by
    have:=hh (j+1) (by simpa using h1) (by simpa using h2)
    simpa using this)with⟨h1,h2⟩|⟨j,av,x,hj,h1,h2,h3,h4⟩
   ·refine .inl ⟨by simp[iz,hn,h1],?_⟩
    simp[Instr.findNow,Instr.sameNow,h0.1,hbf hn,h2]
   ·refine .inr ⟨j+1,av,x,by simpa using hj,by simp[iz,hn,h1];omega,by simpa using h2,?_,h4⟩
    simp[Instr.findNow,Instr.sameNow,h0.1,hbf hn,h3];omega
section
variable {P:Program} {o:Oper} {a:Act} {w:World} {H:aa} {φ:bI} {N:Addr→Prop} {s:Nat→AV}
theorem BA(hR:Rel H φ N w)(t:TypeId)(ho:o.op= .makeMap t none)(kk:IntKind)(kt e:TypeId)(ht:MT P t=some (kk,kt,e)):dd P o a w H φ N (.mp H.length) (H++[.mp kk []]):=by
 have hS:=aF.new hR (.map #[] 0) (.mp kk []) 0
 refine⟨.map (some w.heap.size),w.alloc (.map #[] 0),_,N,.inl ?_,hR.new (.map #[] 0) (.mp kk []) 0 ?_,hS,?_⟩
 ·simp[execOp,ho,Instr.makeMap,Result.andThen]
 ·exact .mp kk [] w.heap.size 0 #[] 0 (bI.a9 _ _ _) (heap_alloc_new w _) rfl rfl (fun j hj=>by simp at hj) (fun j hj=>by simp at hj)
 ·exact .mp H.length w.heap.size 0 kk [] (by simp) (bI.a9 _ _ _)
theorem wO(hR:Rel H φ N w){x:AV}{v:Value}{id:Nat}{kk:IntKind}{es:List (Int×AV)}(hx:RA H φ N w (.mp id) v)(hob:H[id]?=some (.mp kk es)):
  ∃B c ents clock,v= .map (some B)∧φ id=some (B,c)∧w.heap[B]?=some (.map ents clock)∧ents.size=es.length∧(clock=ents.size∧∀j (hj:j<ents.size),(ents[j]).born=j)∧
   ∀j (hj:j<es.length) (hj2:j<ents.size),(ents[j]).key= .int kk (es[j]).1∧RA H φ N w (es[j]).2 (ents[j]).val:=by
 cases hx with
 |mp _ B c kk' es' ho' hp=>
 have h:=hR.obj id _ hob
 cases h with
 |mp _ _ B' cap ents clock hp' hb hs hck hbn hh=>
 rw[hp]at hp';cases hp'
 exact⟨B,_,ents,clock,rfl,hp,hb,hs,⟨hck,hbn⟩,hh⟩
theorem iV{kk:IntKind}{kt:TypeId}(h:P.underlying kt=some (.int kk))(e:Bool)(n:Int):(Instr.checkKey e 10000 kt (.int kk n)).run P w= .ok () w:=by
 show(Instr.checkKey e (9999+1) kt (.int kk n)).run P w= .ok () w
 unfold Instr.checkKey
 simp only[Sem.run_bind,run_underlying h,Result.andThen]
 rfl
theorem jL{kk:IntKind}{kt:TypeId}(h:P.underlying kt=some (.int kk)){k:Value}{l:List MapEntry}{r:Option (Nat×Value)}(hr:Instr.findNow (.int kk) k l 0=some r):(Instr.findKey kt k l).run P w= .ok r w:=by
 simp[Instr.findKey,run_underlying h,Result.andThen,hr]
theorem EB(hR:Rel H φ N w)(hT:cO H φ N w s a)(t:TypeId)(x ix:Operand)(ok:Bool)(ho:o.op= .lookup t x ix ok)(kk:IntKind)(kt e:TypeId)(ht:MT P t=some (kk,kt,e))(z:Value)(k b:Nat)(hi:TI P e=some (z,k,b))
  (id:Nat) (es:List (Int×AV)) (hx:ao s x= .mp id) (hob:H[id]?=some (.mp kk es)) (n:Int) (hix:closed (ao s ix)=some (.int kk n)):
  dd P o a w H φ N (if ok then .bz [(gQ n es).getD (cD z),.d (.v (.bool (gQ n es).isSome))]else(gQ n es).getD (cD z)) H:=by
 obtain⟨hm,hk⟩:=MT.get ht
 have hix':=cI (aB hT ix) hix
 have hx':=aB hT x
 rw[hx]at hx'
 obtain⟨B,c,ents,clock,hv,hp,hb,hs,hbn,hh⟩:=wO (x:= .top) hR hx' hob
 have hg:(getObj B).run P w= .ok (.map ents clock) w:=by simp[getObj,Sem.run,hb]
 have bz:∀(r:AV) (v:Value) (g:Bool),RA H φ N w r v→RA H φ N w (if ok then .bz [r,.d (.v (.bool g))]else r) (if ok then .tuple #[v,.bool g]else v):=by
  intro r v g hr
  cases ok with
  |false=>simpa using hr
  |true=>
   simp only[if_true]
   refine .bz _ _ rfl fun i h1 h2=>?_
   match i,h1 with
   |0,_=>simpa using hr
   |1,_=>simpa using RA.d (.v (.bool g) rfl)
 rcases lN (kk:=kk) (n:=n) (R:=RA H φ N w) es ents.toList 0 (by simpa using hs) (fun j h1 h2=>by simpa using hh j h1 (by simpa using h2))with⟨h1,h2⟩|⟨j,av,y,hj,h1,h2,h3,h4⟩
 ·have hG:gQ n es=none:=by simp[gQ,h1]
  rw[hG]
  refine .same hR (bz _ _ false (fL z)) ?_
  simp only[execOp,ho,Instr.lookup,hv,hix',Sem.run_bind,run_underlying hm,Result.andThen_ok,hg,Sem.run_pure,iV hk,jL hk h2,TI.zero hi]
 ·have hG:gQ n es=some av:=by simp[gQ,h1]
  rw[hG]
  refine .same hR (bz _ _ true h4) ?_
  simp only[execOp,ho,Instr.lookup,hv,hix',Sem.run_bind,run_underlying hm,Result.andThen_ok,hg,Sem.run_pure,iV hk,jL hk h3]
theorem xg(kk:IntKind)(n:Int):(Instr.keyThatStays (.int kk n) (.int kk n)).run P w= .ok (.int kk n) w:=by
 unfold Instr.keyThatStays
 have:Instr.sameBits 10000 (.int kk n) (.int kk n)=true:=by simp[Instr.sameBits]
 simp[this]
theorem nY(hR:Rel H φ N w)(hT:cO H φ N w s a)(t:TypeId)(x ix y:Operand)(ho:o.op= .mapUpdate t x ix y∨o.op= .insert t x ix y)(kk:IntKind)(kt e:TypeId)(ht:MT P t=some (kk,kt,e))
  (id:Nat) (es:List (Int×AV)) (hx:ao s x= .mp id) (hob:H[id]?=some (.mp kk es)) (n:Int) (hix:closed (ao s ix)=some (.int kk n)):
  dd P o a w H φ N .top (H.set id (.mp kk (my n (ao s y) es))):=by
 obtain⟨hm,hk⟩:=MT.get ht
 have hix':=cI (aB hT ix) hix
 have hx':=aB hT x
 rw[hx]at hx'
 obtain⟨B,c,ents,clock,hv,hp,hb,hs,hbn,hh⟩:=wO (x:= .top) hR hx' hob
 have hg:(getObj B).run P w= .ok (.map ents clock) w:=by simp[getObj,Sem.run,hb]
 have hlt:B<w.heap.size:=(Array.getElem?_eq_some_iff.1 hb).1
 have set:∀(ents':Array MapEntry) (clock':Nat) (es':List (Int×AV)),ents'.size=es'.length→clock'=ents'.size→(∀j (hj:j<ents'.size),(ents'[j]).born=j)→
   (∀j (hj:j<es'.length) (hj2:j<ents'.size),(ents'[j]).key= .int kk (es'[j]).1∧RA H φ N w (es'[j]).2 (ents'[j]).val)→
   Rel (H.set id (.mp kk es')) φ N {w with heap:=w.heap.setIfInBounds B (.map ents' clock')}∧aF H φ N w (H.set id (.mp kk es')) φ N {w with heap:=w.heap.setIfInBounds B (.map ents' clock')}:=by
  intro ents' clock' es' hl hck' hbn' hh'
  have h5:∀k,k≠B→(w.heap.setIfInBounds B (.map ents' clock'))[k]?=w.heap[k]?:=fun k hne=>by simp[Ne.symm hne]
  have hS:aF H φ N w (H.set id (.mp kk es')) φ N {w with heap:=w.heap.setIfInBounds B (.map ents' clock')}:=
   aF.set hob hp rfl rfl rfl (fun kk' es'' he=>by cases he;exact⟨_,rfl⟩) rfl rfl rfl (by simp) h5
  refine⟨hR.set hob hp hS h5 ?_,hS⟩
  exact .mp kk es' B c ents' clock' hp (by simp[hlt]) hl hck' hbn' fun j hj hj2=>⟨(hh' j hj hj2).1,(hh' j hj hj2).2.since hR hS⟩
 have run:∀ob,(setObj B ob).run P w= .ok () {w with heap:=w.heap.setIfInBounds B ob}:=fun ob=>by simp[setObj,Sem.run,hb]
 have hy:=aB hT y
 rcases lN (kk:=kk) (n:=n) (R:=RA H φ N w) es ents.toList 0 (by simpa using hs) (fun j h1 h2=>by simpa using hh j h1 (by simpa using h2))with⟨h1,h2⟩|⟨j,av,y',hj,h1,h2,h3,h4⟩
 ·have hP:my n (ao s y) es=es++[(n,ao s y)]:=by simp[my,h1]
  rw[hP]
  obtain⟨hR',hS'⟩:=set (ents.push {key:= .int kk n,val:=a.eval y,born:=clock}) (clock+1) (es++[(n,ao s y)]) (by simp[hs]) (by simp[hbn.1]) (fun j hj=>by
   rw[Array.getElem_push]
   split
   ·exact hbn.2 j _
   ·rename_i h;simp at hj;show clock=j;rw[hbn.1];omega) (fun j hj hj2=>by
   by_cases e:j<es.length
   ·rw[List.getElem_append_left e,Array.getElem_push_lt (by omega)]
    exact hh j e (by omega)
   ·have e':j=es.length:=by simp at hj;omega
    subst e'
    have:es.length=ents.size:=hs.symm
    simp only[List.getElem_concat_length,Array.getElem_push,this]
    simp
    exact hy)
  refine⟨undef,_,φ,N,.inr ⟨?_,rfl⟩,hR',hS',.top _⟩
  rcases ho with ho|ho<;>simp only[execOp,ho,Instr.mapUpdate,hv,hix',Sem.run_bind,run_underlying hm,Result.andThen_ok,hg,Sem.run_pure,iV hk,jL hk h2,run]
 ·have hP:my n (ao s y) es=es.set j (n,ao s y):=by simp[my,h1]
  rw[hP]
  have hj2:j<ents.size:=by omega
  have hn:(es[j]).1=n:=by
   rw[List.getElem?_eq_getElem hj]at h2
   have:=Option.some.inj h2
   rw[this]
  have hkey:(ents[j]).key= .int kk n:=by rw[(hh j hj hj2).1,hn]
  obtain⟨hR',hS'⟩:=set (ents.modify j fun e=>{e with key:= .int kk n,val:=a.eval y}) clock (es.set j (n,ao s y)) (by simp[hs]) (by simp[hbn.1]) (fun i hi=>by
   simp only[Array.getElem_modify]
   split
   ·exact hbn.2 i (by simpa using hi)
   ·exact hbn.2 i (by simpa using hi)) (fun i hi hi2=>by
   simp only[Array.getElem_modify,List.getElem_set]
   by_cases e:j=i
   ·simp only[if_pos e]
    exact⟨trivial,hy⟩
   ·simp only[if_neg e]
    exact hh i (by simpa using hi) (by simpa using hi2))
  refine⟨undef,_,φ,N,.inr ⟨?_,rfl⟩,hR',hS',.top _⟩
  have hget:((ents[j]?).map (·.key)).getD (.int kk n)= .int kk n:=by
   rw[Array.getElem?_eq_getElem hj2]
   simp[hkey]
  rw[Nat.zero_add]at h3
  rcases ho with ho|ho<;>simp only[execOp,ho,Instr.mapUpdate,hv,hix',Sem.run_bind,run_underlying hm,Result.andThen_ok,hg,Sem.run_pure,iV hk,jL hk h3,run,hget,xg]
theorem Bc(hR:Rel H φ N w)(hT:cO H φ N w s a)(x:Operand)(t:TypeId)(ho:o.op= .call {callee:= .builtin .len,args:=#[x],argTypes:=#[t]})(kk:IntKind)(kt e:TypeId)(ht:MT P t=some (kk,kt,e))
  (id:Nat) (es:List (Int×AV)) (hx:ao s x= .mp id) (hob:H[id]?=some (.mp kk es)):dd P o a w H φ N (.d (.v (.int .i64 es.length))) H:=by
 obtain⟨hm,hk⟩:=MT.get ht
 have hx':=aB hT x
 rw[hx]at hx'
 obtain⟨B,c,ents,clock,hv,hp,hb,hs,hbn,hh⟩:=wO (x:= .top) hR hx' hob
 have hg:(getObj B).run P w= .ok (.map ents clock) w:=by simp[getObj,Sem.run,hb]
 refine .same hR (.d (.v _ rfl)) ?_
 simp[execOp,ho,resolve,invoke,Go.builtin,Builtin.len_,hv,run_underlying hm,goInt,hg,hs]
theorem GH(hR:Rel H φ N w)(hT:cO H φ N w s a)(t:TypeId)(x:Operand)(ho:o.op= .range t x)(kk:IntKind)(kt e:TypeId)(ht:MT P t=some (kk,kt,e))(id:Nat)(es:List (Int×AV))(hx:ao s x= .mp id)(hob:H[id]?=some (.mp kk es)):
  dd P o a w H φ N (.ptr H.length 0 0 0) (H++[.iter id es.length []]):=by
 obtain⟨hm,hk⟩:=MT.get ht
 have hx':=aB hT x
 rw[hx]at hx'
 obtain⟨B,c,ents,clock,hv,hp,hb,hs,hbn,hh⟩:=wO (x:= .top) hR hx' hob
 have hg:(getObj B).run P w= .ok (.map ents clock) w:=by simp[getObj,Sem.run,hb]
 have hc:clock=es.length:=by rw[hbn.1,hs]
 have hS:=aF.new hR (.mapIter (some B) clock #[] clock) (.iter id es.length []) 0
 have hlt:id<H.length:=az hob
 refine⟨.pointer (some ⟨w.heap.size,0,none⟩),w.alloc (.mapIter (some B) clock #[] clock),_,N,.inl ?_,hR.new (.mapIter (some B) clock #[] clock) (.iter id es.length []) 0 ?_,hS,?_⟩
 ·simp[execOp,ho,Instr.range,run_underlying hm,hv,hg,Result.andThen]
 ·refine .iter id es.length [] w.heap.size 0 B c kk es (bI.a9 _ _ _) ?_ (by rw[List.getElem?_append_left hlt];exact hob) ((bI.bN _ _ _ _ (Nat.ne_of_lt hlt)).trans hp)
  rw[heap_alloc_new w _,hc]
 ·exact .ptr _ _ _ _ _ (.iter id es.length []) (by simp) (Nat.le_refl _) fun _=>⟨w.heap.size,0,bI.a9 _ _ _,by simp[aT.k]⟩
theorem zN(hR:Rel H φ N w){v:Value}{id:Nat}{m since:Nat}{seen:List Nat}{kk:IntKind}{es:List (Int×AV)}(hx:RA H φ N w (.ptr id 0 0 0) v)(hob:H[id]?=some (.iter m since seen))(hm:H[m]?=some (.mp kk es)):
  ∃B c bm cm ents,v= .pointer (some ⟨B,0,none⟩)∧φ id=some (B,c)∧φ m=some (bm,cm)∧w.heap[B]?=some (.mapIter (some bm) since seen.toArray since)∧w.heap[bm]?=some (.map ents es.length)∧ents.size=es.length∧(∀j (hj:j<ents.size),(ents[j]).born=j)∧
   ∀j (hj:j<es.length) (hj2:j<ents.size),(ents[j]).key= .int kk (es[j]).1∧RA H φ N w (es[j]).2 (ents[j]).val:=by
 cases hx with
 |ptr _ _ _ _ A o' ho' hv' hp=>
 rw[hob]at ho';cases ho'
 obtain⟨B,c,h1,rfl⟩:=hp rfl
 have h:=hR.obj id _ hob
 cases h with
 |iter _ _ _ B' cap bm cm kk' es' hp' hb hm' hpm=>
 rw[h1]at hp';cases hp'
 rw[hm]at hm';cases hm'
 have g:=hR.obj m _ hm
 cases g with
 |mp _ _ B2 cap2 ents clock hp2 hb2 hs hck hbn hh=>
 rw[hpm]at hp2;cases hp2
 exact⟨B,_,bm,_,ents,by simp[aT.k],h1,hpm,hb,by rw[hb2,hck,hs],hs,hbn,hh⟩
theorem HC(hR:Rel H φ N w)(hT:cO H φ N w s a)(x:Operand)(ho:o.op= .entry x)(id m:Nat)(seen:List Nat)(kk:IntKind)(es:List (Int×AV))(hx:ao s x= .ptr id 0 0 0)(hob:H[id]?=some (.iter m es.length seen))(hm:H[m]?=some (.mp kk es))
  (j:Nat) (hj:seen.getLast?=some j) (e:Int×AV) (he:es[j]?=some e):dd P o a w H φ N (.bz [.d (.v (.int kk e.1)),e.2]) H:=by
 have hx':=aB hT x
 rw[hx]at hx'
 obtain⟨B,c,bm,cm,ents,hv,h1,h2,hb,hbm,hs,hbn,hh⟩:=zN hR hx' hob hm
 have hjl:=(List.getElem?_eq_some_iff.1 he).1
 have hee:es[j]=e:=(List.getElem?_eq_some_iff.1 he).2
 have hj2:j<ents.size:=by omega
 have hk:=hh j hjl hj2
 rw[hee]at hk
 have hborn:(ents[j]).born=j:=hbn j hj2
 have hnd:(ents.toList.map (·.born)).Nodup:=by
  have:ents.toList.map (·.born)=List.range ents.size:=by
   apply List.ext_getElem
   ·simp
   ·intro i h1 h2;simp at h1;simp[hbn i h1]
  rw[this];exact List.nodup_range
 obtain⟨pre,hpre⟩:∃pre,seen=pre++[j]:=by
  rw[List.getLast?_eq_some_iff]at hj
  exact hj
 have hrun:=run_entry_at (P:=P) w B bm es.length pre.toArray ents es.length (ents[j]) (by rw[hb,hpre,hborn];simp) hbm (by simp) hnd
 refine⟨.tuple #[(ents[j]).key,(ents[j]).val],w,φ,N,.inl ?_,hR,aF.refl,?_⟩
 ·simp[execOp,ho,hv,hrun]
 ·refine .bz _ _ rfl fun i h1 h2=>?_
  match i,h1 with
  |0,_=>show RA H φ N w (.d (.v (.int kk e.1))) (ents[j]).key;rw[hk.1];exact .d (.v _ rfl)
  |1,_=>exact hk.2
theorem IT(hR:Rel H φ N w)(hT:cO H φ N w s a)(x:Operand)(ho:o.op= .next x false)(id m:Nat)(seen:List Nat)(kk:IntKind)(es:List (Int×AV))(hx:ao s x= .ptr id 0 0 0)(hob:H[id]?=some (.iter m es.length seen))(hm:H[m]?=some (.mp kk es)):
  ((∀j,j<es.length→j∈seen)∧dd P o a w H φ N (.bz [.d (.v (.bool false))]) H)∨
  ∃j e,es[j]?=some e∧j∉seen∧dd P o a w H φ N (.bz [.d (.v (.bool true)),.d (.v (.int kk e.1)),e.2]) (H.set id (.iter m es.length (seen++[j]))):=by
 have hx':=aB hT x
 rw[hx]at hx'
 obtain⟨B,c,bm,cm,ents,hv,h1,h2,hb,hbm,hs,hbn,hh⟩:=zN hR hx' hob hm
 have hold:∀y∈ents.toList,y.born<es.length:=fun y hy=>by
  obtain⟨i,hi,rfl⟩:=List.mem_iff_getElem.1 hy
  have hi':i<ents.size:=by simpa using hi
  have:=hbn i hi'
  simp only[Array.getElem_toList]
  omega
 rcases run_next_at (P:=P) w o.type B bm es.length es.length seen.toArray ents es.length hb hbm hold (Nat.le_refl _)with⟨h0,hrun⟩|⟨y,hy,w1,hw1,hrun⟩
 ·left
  refine⟨fun j hj=>?_,.tuple #[.bool false],w,φ,N,.inl ?_,hR,aF.refl,?_⟩
  ·have hj2:j<ents.size:=by omega
   have hE:leftOf ents seen.toArray=#[]:=Array.eq_empty_of_size_eq_zero h0
   unfold leftOf at hE
   rw[Array.filter_eq_empty_iff]at hE
   have:=hE (ents[j]) (by simp)
   rw[hbn j hj2]at this
   simpa using this
  ·simp[execOp,ho,hv,hrun]
  ·refine .bz _ _ rfl fun i h1 h2=>?_
   match i,h1 with
   |0,_=>exact .d (.v _ rfl)
 ·right
  unfold leftOf at hy
  simp only[Array.mem_toList_iff,Array.mem_filter]at hy
  obtain⟨hy1,hy2⟩:=hy
  obtain⟨j,hj2,rfl⟩:=Array.mem_iff_getElem.1 hy1
  have hjl:j<es.length:=by omega
  have hborn:=hbn j hj2
  rw[hborn]at hy2 hrun
  have hk:=hh j hjl hj2
  have hns:j∉seen:=by simpa using hy2
  have hd:w1.heap=w.heap∧w1.os=w.os∧w1.tape=w.tape∧w1.output=w.output:=by rcases hw1 with rfl|rfl<;>exact⟨rfl,rfl,rfl,rfl⟩
  obtain⟨d1,d2,d3,d4⟩:=hd
  have hR1:=hR.drawn d1 d2 d3 d4
  have hS1:aF H φ N w H φ N w1:=aF.drawn d1 d2 d3 d4
  have hlt:B<w1.heap.size:=by rw[d1];exact(Array.getElem?_eq_some_iff.1 hb).1
  have h5:∀k,k≠B→(ChangeMaps.setBlock w1 B (.mapIter (some bm) es.length (seen.toArray.push j) es.length)).heap[k]?=w1.heap[k]?:=fun k hne=>by simp[ChangeMaps.setBlock,Ne.symm hne]
  have hmi:m≠id:=fun h=>by subst h;rw[hob]at hm;cases hm
  have hS2:aF H φ N w1 (H.set id (.iter m es.length (seen++[j]))) φ N (ChangeMaps.setBlock w1 B (.mapIter (some bm) es.length (seen.toArray.push j) es.length)):=
   aF.set hob h1 rfl rfl rfl (fun kk' es'' he=>by cases he) rfl rfl rfl (by simp[ChangeMaps.setBlock]) h5
  refine⟨j,es[j],List.getElem?_eq_getElem hjl,hns,.tuple #[.bool true,(ents[j]).key,(ents[j]).val],_,φ,N,.inl ?_,hR1.set hob h1 hS2 h5 ?_,hS1.trans hS2,?_⟩
  ·simp[execOp,ho,hv,hrun]
  ·refine .iter m es.length (seen++[j]) B c bm cm kk es h1 ?_ (by rw[List.getElem?_set_ne (Ne.symm hmi)];exact hm) h2
   simp[ChangeMaps.setBlock,hlt]
  ·refine .bz _ _ rfl fun i g1 g2=>?_
   match i,g1 with
   |0,_=>exact .d (.v _ rfl)
   |1,_=>show RA _ _ _ _ (.d (.v (.int kk (es[j]).1))) (ents[j]).key;rw[hk.1];exact .d (.v _ rfl)
   |2,_=>exact(hk.2.since hR hS1).since hR1 hS2
def gZ(P:Program)(t:TypeId):Bool:=match P.underlying t with|some (.pointer _)=>true|_=>false
theorem gZ.get{t:TypeId}(h:gZ P t=true):∃e,P.underlying t=some (.pointer e):=by
 unfold gZ at h
 split at h
 ·exact⟨_,by assumption⟩
 ·cases h
def j8(P:Program)(t:TypeId):AV→Bool
 | .d (.v (.slice none 0 0))=>(SE P t).isSome
 | .d (.v (.pointer none))=>gZ P t
 |_=>false
def known(P:Program)(H:aa)(t:TypeId):AV→Bool
 | .d (.list nn es)=>(SE P t).isSome&&(nn|| !es.isEmpty)
 | .sl id ver _ len=>(SE P t).isSome&&(0<len&&(match H[id]? with|some o=>o.ver==ver|none=>false))
 | .ptr id ver _ _=>gZ P t&&(match H[id]? with|some o=>o.ver==ver|none=>false)
 | .dt _=>gZ P t
 |_=>false
def r7:BinOp→Bool
 | .neq=>true
 |_=>false
def nN(P:Program)(H:aa)(op:BinOp)(t:TypeId)(x y:AV):Bool:=(match op with| .eql| .neq=>true|_=>false)&&((j8 P t y&&known P H t x)||(j8 P t x&&known P H t y))
theorem uC{x:AV}{v:Value}{t:TypeId}(hx:RA H φ N w x v)(h:j8 P t x=true):(v= .slice none 0 0∧∃e,P.underlying t=some (.slice e))∨(v= .pointer none∧∃e,P.underlying t=some (.pointer e)):=by
 unfold j8 at h
 split at h
 ·obtain⟨e,he⟩:=Option.isSome_iff_exists.1 h
  exact .inl ⟨hx.closed,e,SE.get he⟩
 ·exact .inr ⟨hx.closed,gZ.get h⟩
 ·cases h
theorem zd{x:AV}{v:Value}(hx:RA H φ N w x v){t:TypeId}(h:known P H t x=true):(∃e ad l c,P.underlying t=some (.slice e)∧v= .slice (some ad) l c)∨∃e ad,P.underlying t=some (.pointer e)∧v= .pointer (some ad):=by
 unfold known at h
 split at h
 ·rename_i nn es
  simp only[Bool.and_eq_true,Bool.or_eq_true]at h
  obtain⟨e,he⟩:=Option.isSome_iff_exists.1 h.1
  cases hx with
  |d hd=>
   cases hd with
   |nil A c hA=>simp at h
   |list=>exact .inl ⟨e,_,_,_,SE.get he,rfl⟩
 ·rename_i id ver off len
  simp only[Bool.and_eq_true,decide_eq_true_eq]at h
  obtain⟨e,he⟩:=Option.isSome_iff_exists.1 h.1
  cases hx with
  |sl _ _ _ _ A l m o ho hv hp=>
   rw[ho]at h
   simp only[beq_iff_eq]at h
   obtain⟨_,_,h2⟩:=hp h.2.2.symm
   rcases h2 with⟨_,h3,_⟩|⟨B,c,_,_,rfl,_⟩
   ·omega
   ·exact .inl ⟨e,_,_,_,SE.get he,rfl⟩
 ·rename_i id ver i j
  simp only[Bool.and_eq_true]at h
  obtain⟨e,he⟩:=gZ.get h.1
  cases hx with
  |ptr _ _ _ _ A o ho hv hp=>
   rw[ho]at h
   simp only[beq_iff_eq]at h
   obtain⟨B,c,_,rfl⟩:=hp h.2.symm
   exact .inr ⟨e,_,he,rfl⟩
 ·obtain⟨e,he⟩:=gZ.get h
  cases hx with
  |dt=>exact .inr ⟨e,_,he,rfl⟩
 ·cases h
theorem IG(d:Nat)(t e:TypeId)(ad:Addr)(l c:Nat)(h:P.underlying t=some (.slice e))(w:World):(Op.equalIn (d+1) t (.slice (some ad) l c) (.slice none 0 0)).run P w= .ok false w:=by simp[Op.equalIn,run_underlying h]
theorem Jt(d:Nat)(t e:TypeId)(ad:Addr)(l c:Nat)(h:P.underlying t=some (.slice e))(w:World):(Op.equalIn (d+1) t (.slice none 0 0) (.slice (some ad) l c)).run P w= .ok false w:=by simp[Op.equalIn,run_underlying h]
theorem JF(d:Nat)(t e:TypeId)(ad:Addr)(h:P.underlying t=some (.pointer e))(w:World):(Op.equalIn (d+1) t (.pointer (some ad)) (.pointer none)).run P w= .ok false w:=by simp[Op.equalIn,run_underlying h]
theorem Iu(d:Nat)(t e:TypeId)(ad:Addr)(h:P.underlying t=some (.pointer e))(w:World):(Op.equalIn (d+1) t (.pointer none) (.pointer (some ad))).run P w= .ok false w:=by simp[Op.equalIn,run_underlying h]
theorem we(t:TypeId)(u v:Value)(x y:Operand)(op:BinOp)(hop:op= .eql∨op= .neq)(hs:(∃A l c A' l' c',u= .slice A l c∧v= .slice A' l' c')∨∃A A',u= .pointer A∧v= .pointer A')(h:∀w,(Op.equalIn 10000 t u v).run P w= .ok false w):
  (do eqGuard op t x y u v;Go.binOp op t u v:Sem Value).run P w= .ok (.bool (r7 op)) w:=by
 have hg:(eqGuard op t x y u v).run P w= .ok () w:=by
  rcases hs with⟨A,l,c,A',l',c',rfl,rfl⟩|⟨A,A',rfl,rfl⟩<;>rcases hop with rfl|rfl<;>simp[eqGuard]
 rw[Sem.run_bind,hg]
 simp only[Result.andThen_ok]
 have he:(Op.equal t u v).run P w= .ok false w:=h w
 rcases hs with⟨A,l,c,A',l',c',rfl,rfl⟩|⟨A,A',rfl,rfl⟩<;>rcases hop with rfl|rfl<;>simp only[binOp]<;>simp[he,r7]
theorem Fz(hR:Rel H φ N w)(hT:cO H φ N w s a)(op:BinOp)(t ty:TypeId)(x y:Operand)(ho:o.op= .binOp op t x y ty)(h:nN P H op t (ao s x) (ao s y)=true):
  dd P o a w H φ N (.d (.v (.bool (r7 op)))) H:=by
 refine .same hR (x:= .bool (r7 op)) (.d (.v _ rfl)) ?_
 have hx:=aB hT x
 have hy:=aB hT y
 unfold nN at h
 simp only[Bool.and_eq_true,Bool.or_eq_true]at h
 obtain⟨hop,h⟩:=h
 simp only[execOp,ho]
 generalize a.eval x=u at hx
 generalize a.eval y=v at hy
 have hops:op= .eql∨op= .neq:=by cases op<;>first|exact .inl rfl|exact .inr rfl|cases hop
 rcases h with⟨h1,h2⟩|⟨h1,h2⟩
 ·rcases uC hy h1 with⟨rfl,e,he⟩|⟨rfl,e,he⟩<;>rcases zd hx h2 with⟨e',ad,l,c,he',rfl⟩|⟨e',ad,he',rfl⟩
  ·rw[Sem.run_bind,we t _ _ x y op hops (.inl ⟨_,_,_,_,_,_,rfl,rfl⟩) (IG 9999 t e ad l c he)];rfl
  ·rw[he]at he';cases he'
  ·rw[he]at he';cases he'
  ·rw[Sem.run_bind,we t _ _ x y op hops (.inr ⟨_,_,rfl,rfl⟩) (JF 9999 t e ad he)];rfl
 ·rcases uC hx h1 with⟨rfl,e,he⟩|⟨rfl,e,he⟩<;>rcases zd hy h2 with⟨e',ad,l,c,he',rfl⟩|⟨e',ad,he',rfl⟩
  ·rw[Sem.run_bind,we t _ _ x y op hops (.inl ⟨_,_,_,_,_,_,rfl,rfl⟩) (Jt 9999 t e ad l c he)];rfl
  ·rw[he]at he';cases he'
  ·rw[he]at he';cases he'
  ·rw[Sem.run_bind,we t _ _ x y op hops (.inr ⟨_,_,rfl,rfl⟩) (Iu 9999 t e ad he)];rfl
end
def iu:List (List D)→Option (List Int)
 |[]=>some []
 |[.v (.int .u8 n)]::es=>(iu es).map (n::·)
 |_=>none
def gP(ns:List Int):ByteArray:=ns.foldl (fun r n=>r.push (UInt8.ofNat n.toNat)) ByteArray.empty
theorem qI:∀{es:List (List D)} {ns:List Int},iu es=some ns→es.length=ns.length∧∀i (h:i<es.length),es[i]=[.v (.int .u8 (ns.getD i 0))]
 |[],ns,h=>by cases h;exact⟨rfl,fun i h=>by simp at h⟩
 |c::es,ns,h=>by
  unfold iu at h
  split at h
  ·cases h;contradiction
  ·rename_i n es' heq
   cases heq
   obtain⟨ns',hn,rfl⟩:=Option.map_eq_some_iff.1 h
   obtain⟨h1,h2⟩:=qI hn
   refine⟨by simp[h1],fun i hi=>?_⟩
   cases i with
   |zero=>rfl
   |succ i=>simpa using h2 i (by simpa using hi)
  ·cases h
section
variable {P:Program} {o:Oper} {a:Act} {w:World} {H:aa} {φ:bI} {N:Addr→Prop} {s:Nat→AV}
theorem pM(hR:Rel H φ N w)(hT:cO H φ N w s a)(src dst e:TypeId)(x:Operand)(ho:o.op= .convert src dst x)(hs:SE P src=some e)(he:UK P e=some .u8)(hd:P.underlying dst=some .string)
  (nn:Bool) (es:List (List D)) (ns:List Int) (hx:ao s x= .d (.list nn es)) (hb:iu es=some ns):dd P o a w H φ N (.d (.v (.string (gP ns)))) H:=by
 have hv:=aB hT x
 rw[hx]at hv
 refine .same hR (x:= .string (gP ns)) (.d (.v _ rfl)) ?_
 obtain⟨hl,hg⟩:=qI hb
 generalize hu:a.eval x=u at hv
 have key:∀A l c,u= .slice A l c→(Conv.bytesToString (.slice A l c)).run P w= .ok (.string (gP ns)) w→(execOp a.eval o).run P w= .ok (.value (.string (gP ns))) w:=by
  intro A l c hA hr
  simp only[execOp,ho,hu,hA,Sem.run_bind,run_convert_bytes_string w src dst e A l c (SE.get hs) (UK.get he) hd,hr,Result.andThen_ok]
  rfl
 cases hv with
 |d hd'=>
  cases hd' with
  |nil A c hA=>
   cases hb
   refine key A 0 c rfl ?_
   cases A with
   |none=>rfl
   |some ad=>exact run_bytesToString w ad 0 c [] (by simp[loadCells,loadCellsFrom])
  |list _ _ ad cap k c hc hk hcell hdd=>
   refine key (some ad) es.length cap rfl ?_
   refine run_bytesToString w ad es.length cap ns ?_
   have hrun:=run_loadCells (P:=P) w ad es.length (fun i=> .int .u8 (ns.getD i 0)) fun i hi=>by
    have hlen:(es[i]).length=k:=hk _ (List.getElem_mem hi)
    have h1:=hg i hi
    have hk1:k=1:=by rw[←hlen,h1];rfl
    subst hk1
    have h2:=(hcell i 0 hi (by omega)).2
    have h3:=hdd i hi 0 (by rw[h1];simp)
    simp only[h1,List.getElem_cons_zero]at h3
    generalize hcc:c i 0=u at h2 h3
    cases h3
    simpa using h2
   rw[hrun]
   congr 2
   refine List.ext_getElem (by simp[hl]) fun i h1 h2=>?_
   have:i<ns.length:=by simpa using h2
   simp[this]
end
def cB(es:List (List D))(off:Nat)(rows:List (List D)):List (List D):=es.take off++rows++es.drop (off+rows.length)
theorem iy(es:List (List D))(off:Nat)(rows:List (List D))(h:off+rows.length≤es.length):(cB es off rows).length=es.length:=by simp[cB];omega
theorem yq(es:List (List D))(off:Nat)(rows:List (List D))(h:off+rows.length≤es.length)(i:Nat):(cB es off rows)[i]?=if i<off then es[i]? else if i<off+rows.length then rows[i-off]? else es[i]?:=jo es off rows h i
section
variable {P:Program} {o:Oper} {a:Act} {w:World} {H:aa} {φ:bI} {N:Addr→Prop} {s:Nat→AV}
theorem C9(hR:Rel H φ N w){id ver:Nat}{e:TypeId}{k:Nat}{es rows:List (List D)}{off B c:Nat}(ho:H[id]?=some (.arr e k ver es))(hp:φ id=some (B,c))(hoff:off+rows.length≤es.length)(hrk:∀r∈rows,r.length=k)
  (vs:List Value) (hl:vs.length=rows.length* k) (hone:∀v∈vs,v.oneCell'=true) (hrd:∀i (hi:i<rows.length) j (hj:j<(rows[i]).length),∃u,vs[i* k+j]?=some u∧RD N w ((rows[i])[j]) u):
  ∃w',(storeCells ⟨B,off* k,none⟩ vs 0).run P w= .ok () w'∧Rel (H.set id (.arr e k ver (cB es off rows))) φ N w'∧aF H φ N w (H.set id (.arr e k ver (cB es off rows))) φ N w':=by
 have hob:=hR.obj id _ ho
 cases hob with
 |arr _ _ _ _ hk hes hb=>
 rcases hb with⟨h0,_⟩|⟨B',cap,cur,e1,e2,e3,e4,e5,e6⟩
 ·rw[h0]at hp;cases hp
 ·have hpB:=e1
  rw[e1]at hp;cases hp
  have hroom:off* k+vs.length≤cur.size:=by
   have:=Nat.mul_le_mul_right k (show off+rows.length≤c by omega)
   rw[Nat.add_mul]at this
   omega
  refine⟨_,run_storeCells_at (P:=P) B (off* k) e vs 0 cur w e2 (by omega) hone,?_⟩
  simp only[Nat.add_zero]
  generalize hnew:(cur.toList.take (off* k)++vs++cur.toList.drop (off* k+vs.length)).toArray=cur'
  have hS:aF H φ N w (H.set id (.arr e k ver (cB es off rows))) φ N (w.setRow B cur'):=
   aF.set ho hpB rfl rfl (by simp[aT.len,iy _ _ _ hoff]) (fun kk es he=>by cases he) (by simp) (by simp) (by simp) (by simp) (fun k hk=>setRow_other w B k cur' hk)
  refine⟨hR.set ho hpB hS (fun k hk=>setRow_other w B k cur' hk) ?_,hS⟩
  refine .arr e k ver _ hk ?_ (.inr ⟨B,c,cur',hpB,setRow_heap w B cur cur' e (0,0) e2,by rw[iy _ _ _ hoff];exact e3,e4,?_,?_⟩)
  ·intro x hx
   unfold cB at hx
   rcases List.mem_append.1 hx with hx|hx
   ·rcases List.mem_append.1 hx with hx|hx
    ·exact hes x (List.mem_of_mem_take hx)
    ·exact hrk x hx
   ·exact hes x (List.mem_of_mem_drop hx)
  ·rw[←hnew,←e5];simp;omega
  ·intro i hi j hj
   have hget:=kN cur (off* k) vs hroom (i* k+j)
   rw[hnew]at hget
   rw[iy _ _ _ hoff]at hi
   have hsp:=yq es off rows hoff i
   rw[List.getElem?_eq_getElem (by rw[iy _ _ _ hoff];exact hi)]at hsp
   have hjk:j<k:=by
    have hm:(cB es off rows)[i]'(by rw[iy _ _ _ hoff];exact hi)∈cB es off rows:=List.getElem_mem _
    have hlen:∀x∈cB es off rows,x.length=k:=by
     intro x hx
     unfold cB at hx
     rcases List.mem_append.1 hx with hx|hx
     ·rcases List.mem_append.1 hx with hx|hx
      ·exact hes x (List.mem_of_mem_take hx)
      ·exact hrk x hx
     ·exact hes x (List.mem_of_mem_drop hx)
    rw[hlen _ hm]at hj;exact hj
   by_cases a1:i<off
   ·rw[if_pos a1,List.getElem?_eq_getElem hi]at hsp
    have h1:=eI hjk a1
    rw[if_pos h1]at hget
    have hx:=Option.some.inj hsp
    obtain⟨c',hc',hd'⟩:=e6 i hi j (by rw[←hx];exact hj)
    refine⟨c',hget.trans hc',?_⟩
    simp only[hx]
    exact hd'.since hR hS
   ·rw[if_neg a1]at hsp
    have h1:¬i* k+j<off* k:=by
     have:=Nat.mul_le_mul_right k (show off≤i by omega)
     omega
    rw[if_neg h1]at hget
    by_cases a2:i<off+rows.length
    ·rw[if_pos a2,List.getElem?_eq_getElem (show i-off<rows.length by omega)]at hsp
     have hx:=Option.some.inj hsp
     have hq:i* k+j-off* k=(i-off)* k+j:=by
      have:i* k=(i-off)* k+off* k:=by rw[←Nat.add_mul];congr 1;omega
      omega
     have h2:i* k+j<off* k+vs.length:=by
      have h3:=eI hjk (show i-off<rows.length by omega)
      have:i* k=(i-off)* k+off* k:=by rw[←Nat.add_mul];congr 1;omega
      omega
     rw[if_pos h2,hq]at hget
     obtain⟨u,hu,hd'⟩:=hrd (i-off) (by omega) j (by rw[←hx];exact hj)
     refine⟨u,hget.trans hu,?_⟩
     simp only[hx]
     exact hd'.since hR hS
    ·rw[if_neg a2,List.getElem?_eq_getElem hi]at hsp
     have hx:=Option.some.inj hsp
     have h2:¬i* k+j<off* k+vs.length:=by
      have:=Nat.mul_le_mul_right k (show off+rows.length≤i by omega)
      rw[Nat.add_mul]at this
      omega
     rw[if_neg h2]at hget
     obtain⟨c',hc',hd'⟩:=e6 i hi j (by rw[←hx];exact hj)
     refine⟨c',hget.trans hc',?_⟩
     simp only[hx]
     exact hd'.since hR hS
def lE(z:Value)(n:Nat):List (List D):=List.replicate n (z.cells.toList.map D.v)
theorem HA(hR:Rel H φ N w)(hT:cO H φ N w s a)(x:Operand)(t:TypeId)(ho:o.op= .call {callee:= .builtin .clear,args:=#[x],argTypes:=#[t]})(e:TypeId)(ht:SE P t=some e)(z:Value)(k b:Nat)(hi:TI P e=some (z,k,b))(hz:z.cells.size=k)(h1:z.cells.all Value.oneCell'=true)
  (id ver off len:Nat) (es:List (List D)) (hx:ao s x= .sl id ver off len) (hob:H[id]?=some (.arr e k ver es)):dd P o a w H φ N (.bz []) (H.set id (.arr e k ver (cB es off (lE z len)))):=by
 have hx':=aB hT x
 rw[hx]at hx'
 generalize hv:a.eval x=v at hx'
 cases hx' with
 |sl _ _ _ _ A l m o' ho' hver hh=>
 rw[hob]at ho';cases ho'
 obtain⟨rfl,h2,h3⟩:=hh rfl
 simp only[aT.len,aT.k]at h2 h3
 cases l with
 |zero=>
  have e0:cB es off (lE z 0)=es:=by simp[cB,lE]
  rw[e0]
  have e1:H.set id (.arr e k ver es)=H:=by
   apply List.ext_getElem?
   intro j
   rw[List.getElem?_set]
   by_cases hj:id=j
   ·subst hj;rw[if_pos rfl,if_pos (az hob),hob]
   ·rw[if_neg hj]
  rw[e1]
  refine .same hR (x:= .tuple #[]) (.bz [] #[] rfl fun i h1=>by simp at h1) ?_
  cases A with
  |none=>simp[execOp,ho,resolve,invoke,Go.builtin,Builtin.clear_,hv,run_underlying (SE.get ht)]
  |some ad=>simp[execOp,ho,resolve,invoke,Go.builtin,Builtin.clear_,hv,run_underlying (SE.get ht)]
 |succ l=>
  rcases h3 with⟨_,h3,_⟩|⟨B,c,h3,h4,rfl,rfl⟩
  ·omega
  ·have hrl:(lE z (l+1)).length=l+1:=by simp[lE]
   have hzc:(Builtin.zeroCells z.cells (l+1)).toList.length=(l+1)* k:=by simp[Builtin.zeroCells,hz]
   have hpos:0<k:=by
    have hobj:=hR.obj id _ hob
    cases hobj with
    |arr _ _ _ _ hk _ _=>exact hk
   have hzget:∀i,i<(l+1)* k→(Builtin.zeroCells z.cells (l+1)).toList[i]?=some (z.cells.toList[i%k]'(by have:=Nat.mod_lt i hpos;simpa[hz]using this)):=by
    intro i hi
    have hlt:i%k<z.cells.size:=by rw[hz];exact Nat.mod_lt i hpos
    simp only[Builtin.zeroCells,Array.getElem?_toList,Array.getElem?_map,hz]
    rw[Array.getElem?_range,if_pos hi]
    simp[getElem!_pos z.cells (i%k) hlt]
   have hall:=h1
   rw[Array.all_eq_true]at hall
   obtain⟨w',hrun,hR',hS'⟩:=C9 (P:=P) hR hob h3 (off:=off) (rows:=lE z (l+1)) (by rw[hrl];exact h2) (fun r hr=>by rw[List.eq_of_mem_replicate hr];simp[hz]) (Builtin.zeroCells z.cells (l+1)).toList (by rw[hzc,hrl])
    (fun v hv=>by
     obtain⟨i,hi⟩:=List.getElem?_of_mem hv
     have hlt:=(List.getElem?_eq_some_iff.1 hi).1
     rw[hzc]at hlt
     rw[hzget i hlt]at hi
     rw[←Option.some.inj hi]
     simpa using hall (i%k) (by rw[hz];exact Nat.mod_lt i hpos))
    (fun i hi j hj=>by
     rw[hrl]at hi
     have hr:(lE z (l+1))[i]'(by rw[hrl];exact hi)=z.cells.toList.map D.v:=by simp[lE]
     simp only[hr]at hj⊢
     have hjk:j<k:=by simpa[hz]using hj
     refine⟨_,hzget _ (eI hjk hi),?_⟩
     have hmod:(i* k+j)%k=j:=by rw[Nat.mul_comm,Nat.mul_add_mod];exact Nat.mod_eq_of_lt hjk
     simp only[hmod,List.getElem_map]
     exact .v _ (by simpa using hall j (by rw[hz];exact hjk)))
   refine⟨_,w',φ,N,.inl ?_,hR',hS',.bz [] #[] rfl fun i h1=>by simp at h1⟩
   simp[execOp,ho,resolve,invoke,Go.builtin,Builtin.clear_,hv,run_underlying (SE.get ht),TI.zero hi,hrun]
theorem xW(hR:Rel H φ N w)(hT:cO H φ N w s a)(t:TypeId)(x:Operand)(lo hi:Option Operand)(ho:o.op= .slice t x lo hi none)(e:TypeId)(ht:SE P t=some e)(z:Value)(k b:Nat)(hi':TI P e=some (z,k,b))
  (id ver off len:Nat) (hx:ao s x= .sl id ver off len) (ob:aT) (hob:H[id]?=some ob) (hver:ob.ver=ver) (hk:ob.k=k) (l h:Int) (hl:bO s lo=some l) (hh:eg s len hi=some h) (h0:0≤l) (h1:l≤h) (h2:h≤len) (h3:l=0∨l<h):
  dd P o a w H φ N (.sl id ver (off+l.toNat) (h.toNat-l.toNat)) H:=by
 have hxa:=aB hT x
 rw[hx]at hxa
 generalize hv:a.eval x=v at hxa
 cases hxa with
 |sl _ _ _ _ A l' m o' ho' hver' hp=>
 rw[hob]at ho';cases ho'
 obtain⟨rfl,g1,g2⟩:=hp hver.symm
 rcases g2 with⟨g3,rfl,rfl,rfl⟩|⟨B,c,g3,g4,rfl,rfl⟩
 ·have hl0:l=0:=by omega
  have hh0:h=0:=by omega
  subst hl0 hh0
  refine .same hR (x:= .slice (if(0:Nat)=0 then A else A.map (·.add (0* k))) 0 0) ?_ ?_
  ·exact .sl id ver _ _ _ _ _ _ hob hver' fun _=>⟨rfl,by simp,.inl ⟨g3,rfl,rfl,rfl⟩⟩
  ·simp[execOp,ho,hv,Instr.sliceAt,Instr.slice,run_underlying (SE.get ht),jC hT true 0 0 hl hh (by omega) (by omega) (by omega),TI.sizeOf hi']
 ·refine .same hR (x:= .slice (if c-off=l.toNat then some ⟨B,off* ob.k,none⟩else some ((⟨B,off* ob.k,none⟩:Addr).add (l.toNat* k))) (h.toNat-l.toNat) (c-off-l.toNat)) ?_ ?_
  ·refine .sl id ver _ _ _ _ _ _ hob hver' fun _=>⟨rfl,by omega,.inr ⟨B,c,g3,by omega,?_,by omega⟩⟩
   by_cases hc:c-off=l.toNat
   ·rw[if_pos hc]
    have:l.toNat=0:=by omega
    rw[this,Nat.add_zero]
   ·rw[if_neg hc,add_plain,hk,Nat.add_mul]
  ·simp[execOp,ho,hv,Instr.sliceAt,Instr.slice,run_underlying (SE.get ht),jC hT true l' (c-off) hl hh h0 h1 (by omega),TI.sizeOf hi']
end
theorem yQ(es:List (List D))(off:Nat):cB es off []=es:=by simp[cB]
theorem Ha{H:aa}{id:Nat}{o:aT}(h:H[id]?=some o):H.set id o=H:=by
 apply List.ext_getElem?
 intro j
 rw[List.getElem?_set]
 by_cases hj:id=j
 ·subst hj;rw[if_pos rfl,if_pos (az h),h]
 ·rw[if_neg hj]
section
variable {P:Program} {o:Oper} {a:Act} {w:World} {H:aa} {φ:bI} {N:Addr→Prop} {s:Nat→AV}
structure Dj (P:Program) (w:World) (N:Addr→Prop) (k:Nat) (news:List (List D)) (yv:Value):Prop where
 len:(Builtin.lenOf yv).run P w= .ok news.length w
 cells:∀n,n≤news.length→∃vs:List Value,(Builtin.firstCells k n yv).run P w= .ok vs.toArray w∧vs.length=n* k∧(∀u∈vs,u.oneCell'=true)∧
  ∀i (hi:i<(news.take n).length) j (hj:j<((news.take n)[i]).length),∃u,vs[i* k+j]?=some u∧RD N w (((news.take n)[i])[j]) u
theorem GG(hR:Rel H φ N w){y:AV}{yv:Value}(hy:RA H φ N w y yv){k:Nat}{news:List (List D)}(h:ko H y=some news)(hk:∀e∈news,e.length=k):Dj P w N k news yv:=by
 obtain⟨A,c,nv,rfl,hs⟩:=CZ hR hy h hk
 refine⟨rfl,fun n hn=>⟨nv.take (n* k),?_,?_,fun u hu=>hs.one u (List.mem_of_mem_take hu),fun i hi j hj=>?_⟩⟩
 ·have hlen:(nv.take (n* k)).length=n* k:=by
   rw[List.length_take,hs.len]
   have:=Nat.mul_le_mul_right k hn
   omega
  cases A with
  |none=>
   have h0:=hs.nil rfl
   subst h0
   obtain rfl:n=0:=by simpa using hn
   simp[Builtin.firstCells]
  |some ad=>
   have:=run_loadCells_list (P:=P) w ad (nv.take (n* k)) fun j v hv=>hs.cells ad rfl j v (by
    have hj:=(List.getElem?_eq_some_iff.1 hv).1
    rw[List.getElem?_take]at hv
    split at hv
    ·exact hv
    ·cases hv)
   rw[hlen]at this
   simpa[Builtin.firstCells]using this
 ·rw[List.length_take,hs.len]
  have:=Nat.mul_le_mul_right k hn
  omega
 ·rw[List.length_take]at hi
  have hi2:i<news.length:=by omega
  have hrow:(news.take n)[i]'(by rw[List.length_take];exact hi)=news[i]:=List.getElem_take
  simp only[hrow]at hj⊢
  obtain⟨u,hu,hd⟩:=hs.rel i hi2 j hj
  refine⟨u,?_,hd⟩
  have hjk:j<k:=by rw[hk _ (List.getElem_mem hi2)]at hj;exact hj
  have:=eI hjk (show i<n by omega)
  rw[List.getElem?_take,if_pos this]
  exact hu
theorem Jp(hR:Rel H φ N w)(hT:cO H φ N w s a)(x y:Operand)(t t':TypeId)(ho:o.op= .call {callee:= .builtin .copy,args:=#[x,y],argTypes:=#[t,t']})(e:TypeId)(ht:SE P t=some e)(z:Value)(k b:Nat)(hi:TI P e=some (z,k,b))
  (id ver off len:Nat) (es:List (List D)) (hx:ao s x= .sl id ver off len) (hob:H[id]?=some (.arr e k ver es)) (news:List (List D)) (hy:Dj P w N k news (a.eval y)) (hk:∀c∈news,c.length=k):
  dd P o a w H φ N (.d (.v (.int .i64 ((min news.length len:Nat):Int)))) (H.set id (.arr e k ver (cB es off (news.take (min news.length len))))):=by
 have hx':=aB hT x
 rw[hx]at hx'
 generalize hv:a.eval x=v at hx'
 generalize hyv:a.eval y=yv at hy
 cases hx' with
 |sl _ _ _ _ A l m o' ho' hver hh=>
 rw[hob]at ho';cases ho'
 obtain⟨rfl,h2,h3⟩:=hh rfl
 simp only[aT.len,aT.k]at h2 h3
 obtain⟨n,hn⟩:∃n,n=min news.length l:=⟨_,rfl⟩
 have hnn:Nat.min news.length l=n:=hn.symm
 rw[←hn]
 obtain⟨vs,hrun,hvl,hone,hrd⟩:=hy.cells n (by omega)
 have hlen:=hy.len
 by_cases h0:n=0
 ·subst h0
  rw[List.take_zero,yQ,Ha hob]
  have hvs:vs=[]:=List.eq_nil_of_length_eq_zero (by rw[hvl,Nat.zero_mul])
  subst hvs
  refine .same hR (x:= .int .i64 0) (.d (.v _ rfl)) ?_
  cases A with
  |none=>simp[execOp,ho,resolve,invoke,Go.builtin,Builtin.copy_,hv,hyv,run_underlying (SE.get ht),TI.sizeOf hi,hlen,hnn,hrun,goInt]
  |some ad=>simp[execOp,ho,resolve,invoke,Go.builtin,Builtin.copy_,hv,hyv,run_underlying (SE.get ht),TI.sizeOf hi,hlen,hnn,hrun,goInt,storeCells]
 ·rcases h3 with⟨_,h3,_⟩|⟨B,c,h3,h4,rfl,rfl⟩
  ·omega
  ·have hrl:(news.take n).length=n:=by rw[List.length_take];omega
   obtain⟨w',hst,hR',hS'⟩:=C9 (P:=P) hR hob h3 (off:=off) (rows:=news.take n) (by rw[hrl];omega) (fun r hr=>hk r (List.mem_of_mem_take hr)) vs (by rw[hvl,hrl]) hone hrd
   refine⟨.int .i64 (n:Int),w',φ,N,.inl ?_,hR',hS',.d (.v _ rfl)⟩
   simp[execOp,ho,resolve,invoke,Go.builtin,Builtin.copy_,hv,hyv,run_underlying (SE.get ht),TI.sizeOf hi,hlen,hnn,hrun,hst,goInt]
theorem Rel.DG{H:aa}{φ:bI}{N:Addr→Prop}{w:World}{id k ver n:Nat}{e:TypeId}{ds:List D}(hR:Rel H φ N w)(ho:H[id]?=some (.box e k ver n (ds.map AV.d))):
  ∃φ' N',Rel (H.set id (.arr e k (ver+1) [])) φ' N' w∧aF H φ N w (H.set id (.arr e k (ver+1) [])) φ' N' w∧
   ∀v,RA H φ N w (.ptr id ver 0 0) v→∃ad,v= .pointer (some ad)∧RD N' w (.list true (ds.map fun d=>[d])) (.slice (some ad) ds.length ds.length):=by
 have hid:id<H.length:=az ho
 have hobj:=hR.obj id _ ho
 cases hobj with
 |box _ _ _ _ _ B cap cur hk hn hp hb hc hm hs hcell=>
 rw[List.length_map]at hn
 let φ':bI:=fun j=>if j=id then none else φ j
 let N':Addr→Prop:=fun a=>N a∨(a.block=B∧a.spot=none∧a.off<ds.length)
 have hφ:∀j,j≠id→φ' j=φ j:=fun j hj=>if_neg hj
 have hφi:φ' id=none:=if_pos rfl
 have hsz:ds.length≤cur.size:=by have:=Nat.mul_le_mul_right k hc;omega
 have hS:aF H φ N w (H.set id (.arr e k (ver+1) [])) φ' N' w:=by
  refine⟨by simp,rfl,rfl,rfl,Nat.le_refl _,fun _ _ _=>rfl,fun j B c hj hp _=>?_,fun _ h=> .inl h,fun j o hj=>?_,fun a h=>?_⟩
  ·by_cases hji:j=id
   ·subst hji;rw[hφi]at hp;cases hp
   ·rw[hφ j hji]at hp
    exact⟨j,c,by simpa using hj,hp⟩
  ·by_cases hji:j=id
   ·subst hji
    rw[ho]at hj;cases hj
    refine⟨.arr e k (ver+1) [],by simp[hid],rfl,Nat.le_succ _,fun h=>?_,fun kk es' h=>by cases h⟩
    simp only[aT.ver]at h
    omega
   ·refine⟨o,by rw[List.getElem?_set_ne (Ne.symm hji)];exact hj,rfl,Nat.le_refl _,fun _=>⟨hφ j hji,Nat.le_refl _⟩,fun kk es' h=>⟨hφ j hji,es',h⟩⟩
  ·rcases h with h|⟨h,_⟩
   ·exact .inl h
   ·exact .inr (.inr ⟨id,cap,hid,by rw[h];exact hp⟩)
 refine⟨φ',N',⟨fun j o hj=>?_,fun i j B c c' hi hj hpi hpj=>?_,fun a ha=>?_,fun a j B' c ha hj hp'=>?_⟩,hS,fun v hv=>?_⟩
 ·by_cases hji:j=id
  ·subst hji
   simp[hid]at hj
   subst hj
   exact .arr e k (ver+1) [] hk (fun c hc=>by simp at hc) (.inl ⟨hφi,rfl⟩)
  ·rw[List.getElem?_set_ne (Ne.symm hji)]at hj
   exact(hR.obj j o hj).ev hR hS (hφ j hji) fun _ _ _=>rfl
 ·have hi':i≠id:=fun h=>by subst h;rw[hφi]at hpi;cases hpi
  have hj':j≠id:=fun h=>by subst h;rw[hφi]at hpj;cases hpj
  rw[hφ i hi']at hpi
  rw[hφ j hj']at hpj
  exact hR.inj i j B c c' (by simpa using hi) (by simpa using hj) hpi hpj
 ·rcases ha with ha|⟨h1,h2,h3⟩
  ·exact hR.live a ha
  ·have hlt:a.off<cur.size:=by omega
   refine⟨cur[a.off],?_⟩
   simp[World.cell?,h1,hb,h2,hlt]
 ·have hj':j≠id:=fun h=>by subst h;rw[hφi]at hp';cases hp'
  rw[hφ j hj']at hp'
  have hj2:j<H.length:=by simpa using hj
  rcases ha with ha|⟨h1,_⟩
  ·exact hR.apart a j B' c ha hj2 hp'
  ·intro hab
   have:B=B':=h1.symm.trans hab
   subst this
   exact hj' (hR.inj j id B c cap hj2 hid hp' hp)
 ·cases hv with
  |ptr _ _ _ _ A o' ho' hv' hh=>
  rw[ho]at ho';cases ho'
  obtain⟨B',c,hp',rfl⟩:=hh rfl
  rw[hp]at hp';cases hp'
  simp only[Nat.zero_mul,Nat.add_zero]
  refine⟨⟨B,0,none⟩,rfl,?_⟩
  have key:=RD.list (N:=N') (w:=w) true (ds.map fun d=>[d]) ⟨B,0,none⟩ ds.length 1 (fun i j=>cur.getD (i+j) undef) (by simp)
   (fun e he=>by obtain⟨d,_,rfl⟩:=List.mem_map.1 he;rfl) (fun i j hi hj=>by
    rw[List.length_map]at hi
    have hj0:j=0:=by omega
    subst hj0
    rw[add_plain]
    simp only[Nat.mul_one,Nat.add_zero,Nat.zero_add]
    refine⟨.inr ⟨rfl,rfl,hi⟩,?_⟩
    simp[World.cell?,hb,Array.getD,show i<cur.size by omega]) (fun i hi j hj=>by
    have hi':i<ds.length:=by simpa using hi
    have hrow:(ds.map fun d=>[d])[i]'hi=[ds[i]]:=by simp
    have hj0:j=0:=by rw[hrow]at hj;simpa using hj
    subst hj0
    simp only[hrow,List.getElem_cons_zero,Nat.add_zero]
    obtain⟨u,hu,hd⟩:=hcell i (by simpa using hi')
    have hget:cur.getD i undef=u:=by rw[Array.getD_eq_getD_getElem?,hu];rfl
    rw[hget]
    simp only[List.getElem_map]at hd
    cases hd with
    |d hd=>exact hd.since hR hS)
  rw[List.length_map]at key
  exact key
theorem xa{ds:List D}{ad:Addr}{n:Nat}(h:RD N w (.list true (ds.map fun d=>[d])) (.slice (some ad) n n)):RA H φ N w (.dt ds) (.pointer (some ad)):=by
 generalize hes:(ds.map fun d=>[d])=es at h
 have hl:es.length=ds.length:=by rw[←hes,List.length_map]
 cases h with
 |list _ _ _ cap k c hc hk hh hd=>
  refine .dt _ ad (fun t=>c t 0) (fun t ht=>?_) fun t ht=>?_
  ·have hk1:k=1:=by
    have h1:0<es.length:=by omega
    have:=hk _ (List.getElem_mem h1)
    subst hes
    simpa using this.symm
   subst hk1
   have:=hh t 0 (by omega) (by omega)
   simpa using this
  ·have hi:t<es.length:=by omega
   have hrow:es[t]=[ds[t]]:=by subst hes;simp
   have:=hd t hi 0 (by rw[hrow];simp)
   simpa only[hrow,List.getElem_cons_zero]using this
theorem tJ(hR:Rel H φ N w)(hT:cO H φ N w s a)(t:TypeId)(x:Operand)(lo hi0:Option Operand)(ho:o.op= .slice t x lo hi0 none)(h1:lo.isNone=true)(h2:hi0.isNone=true)(e:TypeId)(n:Nat)(ha:AE P t=some (n,e))(z:Value)(b:Nat)(hi:TI P e=some (z,1,b))
  (ds:List D) (hx:ao s x= .dt ds) (hl:ds.length=n):dd P o a w H φ N (.d (.list true (ds.map fun d=>[d]))) H:=by
 cases lo with
 |some _=>cases h1
 |none=>
 cases hi0 with
 |some _=>cases h2
 |none=>
 have hx':=aB hT x
 rw[hx]at hx'
 have hae:=AE.get ha
 generalize hv:a.eval x=v at hx'
 cases hx' with
 |dt _ ad c h hd=>
  have key:=RD.list (N:=N) (w:=w) true (ds.map fun d=>[d]) ad ds.length 1 (fun i j=>c (i+j)) (by simp) (fun e he=>by obtain⟨d,_,rfl⟩:=List.mem_map.1 he;rfl)
   (fun i j hi hj=>by
    rw[List.length_map]at hi
    have hj0:j=0:=by omega
    subst hj0
    simpa using h i hi) (fun i hi j hj=>by
    have hi':i<ds.length:=by simpa using hi
    have hrow:(ds.map fun d=>[d])[i]'hi=[ds[i]]:=by simp
    have hj0:j=0:=by rw[hrow]at hj;simpa using hj
    subst hj0
    simp only[hrow,List.getElem_cons_zero,Nat.add_zero]
    exact hd i hi')
  rw[List.length_map,hl]at key
  refine .same hR (x:= .slice (some ad) n n) (.d key) ?_
  by_cases hn:n=0
  ·subst hn
   simp[execOp,ho,Instr.sliceAt,Instr.sureAddr,Instr.sliceBounds,hv,run_underlying hae,TI.sizeOf hi,Result.andThen]
  ·simp[execOp,ho,Instr.sliceAt,Instr.sureAddr,Instr.sliceBounds,hv,run_underlying hae,TI.sizeOf hi,Result.andThen,Addr.add]
def AJ:List (List D)→Option (List D)
 |[]=>some []
 |[d]::r=>(AJ r).map (d::·)
 |_=>none
theorem C4:∀{es:List (List D)} {ds:List D},AJ es=some ds→es=ds.map fun d=>[d]
 |[],ds,h=>by cases h;rfl
 |[]::r,ds,h=>by cases h
 |[d]::r,ds,h=>by
  simp only[AJ,Option.map_eq_some_iff]at h
  obtain⟨l,h1,rfl⟩:=h
  rw[C4 h1];rfl
 |(_::_::_)::r,ds,h=>by cases h
theorem A4(hR:Rel H φ N w)(hT:cO H φ N w s a)(t:TypeId)(x:Operand)(ho:o.op= .sliceToArrayPointer t x)(e:TypeId)(n:Nat)(ha:AE P t=some (n,e))(nn:Bool)(ds:List D)(hx:ao s x= .d (.list nn (ds.map fun d=>[d])))(h0:0<n)(hn:n≤ds.length):
  dd P o a w H φ N (.dt (ds.take n)) H:=by
 have hx':=aB hT x
 rw[hx]at hx'
 have hae:=AE.get ha
 generalize hv:a.eval x=v at hx'
 generalize hes:(ds.map fun d=>[d])=es at hx'
 have hl:es.length=ds.length:=by rw[←hes,List.length_map]
 cases hx' with
 |d hd=>
 cases hd with
 |nil A c=>simp at hl;omega
 |list _ _ ad cap k c hc hk hh hd=>
  have hk1:k=1:=by
   have h1:0<es.length:=by omega
   have:=hk _ (List.getElem_mem h1)
   subst hes
   simpa using this.symm
  subst hk1
  refine .same hR (x:= .pointer (some ad)) (.dt _ ad (fun t=>c t 0) (fun t ht=>?_) fun t ht=>?_) ?_
  ·rw[List.length_take]at ht
   have:=hh t 0 (by omega) (by omega)
   simpa using this
  ·rw[List.length_take]at ht
   have hi:t<es.length:=by omega
   have hrow:es[t]=[ds[t]'(by omega)]:=by subst hes;simp
   have:=hd t hi 0 (by rw[hrow];simp)
   simp only[hrow,List.getElem_cons_zero]at this
   simpa using this
  ·simp[execOp,ho,hv,Instr.arrayAt,run_underlying hae,hl,show ¬ds.length<n by omega,Result.andThen]
end
inductive lH where
 |ok (r:AV)
 |panic (v:Value)
def tF(H:aa)(φ:bI)(N:Addr→Prop)(w:World)(args:List AV)(vals:Array Value):Prop:=
 args.length=vals.size∧∀i (h1:i<args.length) (h2:i<vals.size),RA H φ N w (args[i]) (vals[i])
def vN(H:aa)(φ:bI)(N:Addr→Prop)(w:World):lH→Ending→Prop
 | .ok r,.returned v=>RA H φ N w r v
 | .panic x,.panicked [p]=>p={v:=x,recovered:=false}
 |_,_=>False
def vF(P:Program)(f:FuncId)(vals:Array Value)(w:World)(R:Ending→World→Prop):Prop:=
 ((callFunc f vals).run P w= .ok (.enter f vals) w∧Calls P f vals w R)∨∃v w',(callFunc f vals).run P w= .ok (.value v) w'∧R (.returned v) w'
def ag(P:Program)(f:FuncId)(args:List AV)(H:aa)(res:lH)(H':aa):Prop:=
 ∀(φ:bI) (N:Addr→Prop) (w:World) (vals:Array Value),Rel H φ N w→tF H φ N w args vals→
  vF P f vals w fun e w'=>∃φ' N',Rel H' φ' N' w'∧aF H φ N w H' φ' N' w'∧vN H' φ' N' w' res e
def dy(s:Nat→AV)(k:IntKind):List Operand→Option (List Int)
 |[]=>some []
 |x::xs=>match closed (ao s x),dy s k xs with
  |some (.int k' n),some ns=>if k'=k then some (n::ns)else none
  |_,_=>none
def df(P:Program)(s:Nat→AV)(H:aa)(b:Builtin)(args:List Operand)(tys:List TypeId)(K:AV→aa→Prop):Prop:=
 match b,args,tys with
 | .len,[x],[t]=>
  match SE P t with
  |some _=>(match tj H (ao s x)with|some n=>K (.d (.v (.int .i64 n))) H|none=>False)
  |none=>(match MT P t with
   |some (kk,_,_)=>(match ao s x with| .mp id=>(match H[id]? with|some (.mp kk' es)=>kk'=kk∧K (.d (.v (.int .i64 es.length))) H|_=>False)|_=>False)
   |none=>P.underlying t=some .string∧(match closed (ao s x)with|some (.string b)=>K (.d (.v (.int .i64 b.size))) H|_=>False))
 | .append,[x,y],[t,t']=>
  match SE P t with
  |some e=>(match TI P e with
   |some (z,k,b)=>(z.cells.size=k∧0<k)∧(match o8 P t t' k H (ao s y)with
    |some news=>(∀c∈news,c.length=k)∧
     (match ao s x with
     | .sl id ver 0 len=>(match H[id]? with
      |some (.arr e' k' ver' es)=>(e'=e∧k'=k∧ver'=ver∧es.length=len)∧(es.length+news.length)* b≤140737488355328∧es.length+news.length≤9223372036854775807∧
        K (.sl id (ver+1) 0 (es.length+news.length)) (H.set id (.arr e k (ver+1) (es++news)))
      |_=>False)
     |x=>isNone x=true∧news.length* b≤140737488355328∧news.length≤9223372036854775807∧K (.sl H.length 1 0 news.length) (H++[.arr e k 1 news]))
    |none=>False)
   |none=>False)
  |none=>False
 | .clear,[x],[t]=>(match SE P t with
  |some e=>(match TI P e with
   |some (z,k,_)=>(z.cells.size=k∧z.cells.all Value.oneCell'=true)∧(match ao s x with
    | .sl id ver off len=>(match H[id]? with
     |some (.arr e' k' ver' es)=>(e'=e∧k'=k∧ver'=ver)∧K (.bz []) (H.set id (.arr e k ver (cB es off (lE z len))))
     |_=>False)
    |_=>False)
   |none=>False)
  |none=>False)
 | .copy,[x,y],[t,_]=>(match SE P t with
  |some e=>(match TI P e with
   |some (_,k,_)=>(match ko H (ao s y)with
    |some news=>(∀c∈news,c.length=k)∧(match ao s x with
     | .sl id ver off len=>(match H[id]? with
      |some (.arr e' k' ver' es)=>(e'=e∧k'=k∧ver'=ver)∧K (.d (.v (.int .i64 ((min news.length len:Nat):Int)))) (H.set id (.arr e k ver (cB es off (news.take (min news.length len)))))
      |_=>False)
     |_=>False)
    |none=>False)
   |none=>False)
  |none=>False)
 | .min,x::xs,_=>(match closed (ao s x)with
  |some (.int k n)=>(match dy s k xs with|some ns=>K (.d (.v (.int k (ns.foldl min n)))) H|none=>False)
  |_=>False)
 | .max,x::xs,_=>(match closed (ao s x)with
  |some (.int k n)=>(match dy s k xs with|some ns=>K (.d (.v (.int k (ns.foldl max n)))) H|none=>False)
  |_=>False)
 |_,_,_=>False
def eB(H:aa)(k:Nat)(lo:Option Int)(hi:Nat→Option Int)(K:AV→aa→Prop):AV→Prop
 | .d (.list _ es)=>(∀c∈es,c.length=k)∧(match lo,hi es.length with
  |some l,some h=>0≤l∧l≤h∧h≤es.length∧K (.d (.list false ((es.take h.toNat).drop l.toNat))) H
  |_,_=>False)
 | .sl id ver off len=>(match H[id]?,lo,hi len with
  |some o,some l,some h=>(o.ver=ver∧o.k=k∧o.live=true)∧0≤l∧l≤h∧h≤len∧(l=0∨l<h)∧K (.sl id ver (off+l.toNat) (h.toNat-l.toNat)) H
  |_,_,_=>False)
 |_=>False
def zw(H:aa)(n:Nat)(K:AV→aa→Prop):AV→Prop
 | .dt ds=>ds.length=n∧K (.d (.list true (ds.map fun d=>[d]))) H
 |_=>False
def isAny(P:Program)(t:TypeId):Bool:=match P.underlying t with|some (.interface ms)=>ms.isEmpty|_=>false
def iq(H:aa)(k:Nat)(lo hi mx:Option Int)(K:AV→aa→Prop):AV→Prop
 | .d (.list _ es)=>(∀c∈es,c.length=k)∧(match lo,hi,mx with
  |some l,some h,some m=>0≤l∧l≤h∧h≤m∧m≤es.length∧K (.d (.list false ((es.take h.toNat).drop l.toNat))) H
  |_,_,_=>False)
 |_=>False
def lQ(P:Program)(t:TypeId)(ok:Bool):Option AV:=if ok=true then(TI P t).map fun z=> .bz [cD z.1,.d (.v (.bool false))]else none
def mB(P:Program)(t:TypeId)(ok:Bool):Option Value→Option AV
 |some (.iface t' u)=>if t'=t then some (if ok=true then .bz [cD u,.d (.v (.bool true))]else cD u)else lQ P t ok
 |some .nilIface=>lQ P t ok
 |_=>none
def ga(P:Program)(t:TypeId)(ok:Bool)(H:aa)(K:AV→aa→Prop)(v:Option Value):Prop:=isIface P t=false∧match mB P t ok v with|some r=>K r H|none=>False
def iQ(P:Program)(s:Nat→AV)(H:aa)(hint:Bool)(op:Op)(K:AV→aa→Prop):Prop:=
 match op with
 | .move x=>K (ao s x) H
 | .assign x=>K (ao s x) H
 | .pick c x y=>(match ao s c with| .d (.v (.bool t))=>K (if t then ao s x else ao s y) H|_=>False)
 | .alloc e=>(match TI P e with|some (z,k,_)=>(0<k∧z.cells.size=k∧z.cells.all Value.oneCell'=true)∧(if hint then ∃id e',H[id]?=some (.arr e' k 0 [])∧K (.ptr id 1 0 0) (H.set id (.box e k 1 1 (cL z.cells)))else K (.ptr H.length 0 0 0) (H++[.box e k 0 1 (cL z.cells)]))|none=>False)
 | .box e x=>(match cellsOf (ao s x)with|some cs=>0<cs.length∧K (.ptr H.length 0 0 0) (H++[.box e cs.length 0 1 cs])|none=>False)
 | .build t parts=>(match TI P t with
  |some (z,_,_)=>z.cells.all Value.oneCell'=true∧(match SP P t with
   |some places=>(match gw (places.toArray[·]?) (cL z.cells) (dz s parts)with|some out=>K (.agg out) H|none=>False)
   |none=>(match AE P t with
    |some (_,e)=>(match TI P e with|some (_,ke,_)=>(match gw (fun i=>some (i* ke,ke)) (cL z.cells) (dz s parts)with|some out=>K (.agg out) H|none=>False)|none=>False)
    |none=>False))
  |none=>False)
 | .buildSlice t n parts=>(match SE P t with
  |some e=>(match TI P e with
   |some (z,k,_)=>if n=0 then parts=#[]∧K .eS H else
     (z.cells.size=k∧z.cells.all Value.oneCell'=true∧n* k≤16777216∧0<n* k)∧(match gw (fun i=>some (i* k,k)) (j5 z (n* k)) (dz s parts)with
      |some out=>(match pz out with|some ds=>if hint then K (.sl H.length 0 0 n) (H++[.arr e k 0 (chunk n k ds)])else K (.d (.list true (chunk n k ds))) H|none=>False)
      |none=>False)
   |none=>False)
  |none=>False)
 | .load t x=>(match gT P t with
  |some true=>(match TI P t with|some (_,k,_)=>(match gD H k (ao s x)with|some cs=>K (.agg cs) H|none=>False)|none=>False)
  |some false=>(match gD H 1 (ao s x)with|some [c]=>K c H|_=>False)
  |none=>False)
 | .store t x y=>(match TI P t with
  |some (_,k,_)=>(match cellsOf (ao s y)with|some cs=>cs.length=k∧(match sd H cs (ao s x)with|some H'=>K .top H'|none=>False)|none=>False)
  |none=>False)
 | .fieldAddr t x f=>(match FO P t f with
  |some (off,ft)=>(match TI P ft with|some (_,k,_)=>0<k∧fresh H (ao s x)=true∧(match jA off (ao s x)with|some y=>K y H|none=>False)|none=>False)
  |none=>False)
 | .field t x f=>(match FO P t f with
  |some (off,ft)=>(match TI P ft with
   |some (_,k,_)=>(match ao s x with
    | .agg cs=>(match gT P ft with
     |some true=>off+k≤cs.length∧K (.agg ((cs.drop off).take k)) H
     |some false=>(match cs[off]? with|some y=>K y H|none=>False)
     |none=>False)
    |_=>False)
   |none=>False)
  |none=>False)
 | .indexAddr t x ix=>(match ao s ix with
  | .d (.v (.int _ i))=>(match SE P t with
   |some e=>(match TI P e with|some (_,k,_)=>(match jO H k i (ao s x)with|some y=>K y H|none=>False)|none=>False)
   |none=>(match AE P t with
    |some (n,e)=>(match TI P e with|some (_,k,_)=>0≤i∧i<n∧fresh H (ao s x)=true∧(match jA (i.toNat* k) (ao s x)with|some y=>K y H|none=>False)|none=>False)
    |none=>False))
  |_=>False)
 | .index t x ix=>P.underlying t=some .string∧(match closed (ao s x),closed (ao s ix)with
  |some (.string b),some (.int _ i)=>0≤i∧(match b[i.toNat]? with|some u=>K (.d (.v (.int .u8 u.toNat))) H|none=>False)
  |_,_=>False)
 | .slice t x lo hi none=>(match SE P t with
  |some e=>(match TI P e with
   |some (_,k,_)=>eB H k (bO s lo) (fun n=>eg s n hi) K (ao s x)
   |none=>False)
  |none=>(match AE P t with
   |some (n,e)=>(lo.isNone=true∧hi.isNone=true)∧(match TI P e with|some (_,k,_)=>k=1∧zw H n K (ao s x)|none=>False)
   |none=>P.underlying t=some .string∧(match closed (ao s x)with
    |some (.string b)=>(match bO s lo,eg s b.size hi with
     |some l,some h=>0≤l∧l≤h∧h≤b.size∧K (.d (.v (.string (b.extract l.toNat h.toNat)))) H
     |_,_=>False)
    |_=>False)))
 | .slice t x lo (some hi) (some mx)=>(match SE P t with
  |some e=>(match TI P e with
   |some (_,k,_)=>iq H k (bO s lo) (bO s (some hi)) (bO s (some mx)) K (ao s x)
   |none=>False)
  |none=>False)
 | .sliceToArrayPointer t x=>(match AE P t,ao s x with
  |some (n,_),.d (.list _ es)=>(match AJ es with
   |some ds=>(0<n∧n≤ds.length)∧K (.dt (ds.take n)) H
   |none=>False)
  |_,_=>False)
 | .typeAssert x _ t ok=>ga P t ok H K (closed (ao s x))
 | .binOp op t x y _=>(match closed (ao s x),closed (ao s y)with
  |some u,some v=>dE P op t u v fun r=>K (cD r) H
  |_,_=>nN P H op t (ao s x) (ao s y)=true∧K (.d (.v (.bool (r7 op)))) H)
 | .unOp op _ x=>(match closed (ao s x)with|some u=>FK op u fun r=>K (cD r) H|none=>False)
 | .convert src dst x=>(match SE P src with
  |some e=>UK P e=some .u8∧P.underlying dst=some .string∧(match ao s x with| .d (.list _ es)=>(match iu es with|some ns=>K (.d (.v (.string (gP ns)))) H|none=>False)|_=>False)
  |none=>(match closed (ao s x)with
   |some (.int _ n)=>(match UK P src,UK P dst with|some _,some k=>K (.d (.v (.int k (k.wrap n)))) H|_,_=>False)
   |_=>False))
 | .extract x i=>(match ao s x with| .bz cs=>(match cs[i]? with|some c=>K c H|none=>False)|_=>False)
 | .makeFunc (.func f) first caps=>first=#[]∧K (.fn f (caps.toList.map (ao s))) H
 | .nilCheck x=>xr H (ao s x)=true∧K (ao s x) H
 | .makeInterface t x=>(match closed (ao s x)with|some u=>isIface P t=false∧K (.d (.v (.iface t u))) H|none=>False)
 | .makeMap t none=>(match MT P t with|some (kk,_,_)=>K (.mp H.length) (H++[.mp kk []])|none=>False)
 | .makeSlice t l c=>(match SE P t with
  |some e=>(match TI P e with
   |some (z,k,b)=>(match closed (ao s l),closed (ao s c)with
    |some (.int _ n),some (.int _ m)=>(0<k∧z.cells.size=k∧z.cells.all Value.oneCell'=true∧m=n∧0≤n∧n≤1000000000000∧n* (b:Int)≤140737488355328)∧K (.sl H.length 0 0 n.toNat) (H++[.arr e k 0 (List.replicate n.toNat (z.cells.toList.map D.v))])
    |_,_=>False)
   |none=>False)
  |none=>False)
 | .range t x=>(match MT P t with
  |some (kk,_,_)=>(match ao s x with
   | .mp id=>(match H[id]? with
    |some (.mp kk' es)=>kk'=kk∧K (.ptr H.length 0 0 0) (H++[.iter id es.length []])
    |_=>False)
   |_=>False)
  |none=>False)
 | .entry x=>(match ao s x with
  | .ptr id 0 0 0=>(match H[id]? with
   |some (.iter m since seen)=>(match H[m]?,seen.getLast? with
    |some (.mp kk es),some j=>(match es[j]? with
     |some e=>since=es.length∧K (.bz [.d (.v (.int kk e.1)),e.2]) H
     |none=>False)
    |_,_=>False)
   |_=>False)
  |_=>False)
 | .next x false=>(match ao s x with
  | .ptr id 0 0 0=>(match H[id]? with
   |some (.iter m since seen)=>(match H[m]? with
    |some (.mp kk es)=>since=es.length∧((∀j,j<es.length→j∈seen)→K (.bz [.d (.v (.bool false))]) H)∧
      ∀j e,es[j]?=some e→j∉seen→K (.bz [.d (.v (.bool true)),.d (.v (.int kk e.1)),e.2]) (H.set id (.iter m since (seen++[j])))
    |_=>False)
   |_=>False)
  |_=>False)
 | .lookup t x ix ok=>(match MT P t with
  |some (kk,_,e)=>(match TI P e with
   |some (z,_,_)=>(match ao s x with
    | .mp id=>(match H[id]? with
     |some (.mp kk' es)=>(match closed (ao s ix)with
      |some (.int ki n)=>(kk'=kk∧ki=kk)∧K (if ok then .bz [(gQ n es).getD (cD z),.d (.v (.bool (gQ n es).isSome))]else(gQ n es).getD (cD z)) H
      |_=>False)
     |_=>False)
    |_=>False)
   |none=>False)
  |none=>False)
 | .mapUpdate t x ix y| .insert t x ix y=>(match MT P t with
  |some (kk,_,_)=>(match ao s x with
   | .mp id=>(match H[id]? with
    |some (.mp kk' es)=>(match closed (ao s ix)with
     |some (.int ki n)=>(kk'=kk∧ki=kk)∧K .top (H.set id (.mp kk (my n (ao s y) es)))
     |_=>False)
    |_=>False)
   |_=>False)
  |none=>False)
 | .call c=>(match c.callee with| .builtin b=>df P s H b c.args.toList c.argTypes.toList K|_=>False)
 |_=>False
section
variable {P:Program} {o:Oper} {a:Act} {w:World} {H:aa} {φ:bI} {N:Addr→Prop} {s:Nat→AV}
theorem oG(c:Call)(b:Builtin)(xs:List Operand)(ts:List TypeId)(h1:c.callee= .builtin b)(h2:c.args.toList=xs)(h3:c.argTypes.toList=ts):c={callee:= .builtin b,args:=xs.toArray,argTypes:=ts.toArray}:=by
 cases c
 simp only at h1 h2 h3
 subst h1 h2 h3
 simp
theorem rU(hT:cO H φ N w s a){k:IntKind}:∀{xs:List Operand} {ns:List Int},dy s k xs=some ns→xs.map a.eval=ns.map (Value.int k)
 |[],ns,h=>by cases h;rfl
 |x::xs,ns,h=>by
  unfold dy at h
  split at h
  ·rename_i k' n ns' hx hr
   split at h
   ·rename_i hk
    subst hk
    cases h
    simp only[List.map_cons]
    rw[rU hT hr,cI (aB hT x) hx]
   ·cases h
  ·cases h
theorem zI(P:Program)(w:World)(k:IntKind):∀(ns:List Int) (n:Int),((ns.map (Value.int k)).foldlM Go.Builtin.min2 (Value.int k n)).run P w= .ok (.int k (ns.foldl min n)) w
 |[],n=>rfl
 |m::ns,n=>by
  simp only[List.map_cons,List.foldlM_cons,List.foldl_cons,Sem.run_bind]
  have:(Go.Builtin.min2 (.int k n) (.int k m)).run P w= .ok (.int k (min n m)) w:=by
   have e:(if m<n then m else n)=min n m:=by split<;>omega
   show(pure (Value.int k (if m<n then m else n)):Sem Value).run P w=_
   rw[e];rfl
  rw[this]
  exact zI P w k ns (min n m)
theorem zD(P:Program)(w:World)(k:IntKind):∀(ns:List Int) (n:Int),((ns.map (Value.int k)).foldlM Go.Builtin.max2 (Value.int k n)).run P w= .ok (.int k (ns.foldl max n)) w
 |[],n=>rfl
 |m::ns,n=>by
  simp only[List.map_cons,List.foldlM_cons,List.foldl_cons,Sem.run_bind]
  have:(Go.Builtin.max2 (.int k n) (.int k m)).run P w= .ok (.int k (max n m)) w:=by
   have e:(if m>n then m else n)=max n m:=by split<;>omega
   show(pure (Value.int k (if m>n then m else n)):Sem Value).run P w=_
   rw[e];rfl
  rw[this]
  exact zD P w k ns (max n m)
theorem uH(hR:Rel H φ N w)(hT:cO H φ N w s a){c:Call}(ho:o.op= .call c)(b:Builtin)(hb:b= .min∨b= .max)(hc:c.callee= .builtin b)(x:Operand)(xs:List Operand)(hxs:c.args.toList=x::xs)(k:IntKind)(n:Int)(hx:closed (ao s x)=some (.int k n))(ns:List Int)
  (h:dy s k xs=some ns):dd P o a w H φ N (.d (.v (.int k (if b= .min then ns.foldl min n else ns.foldl max n)))) H:=by
 refine .same hR (.d (.v _ rfl)) ?_
 have e1:c.args.map a.eval=(Value.int k n::ns.map (Value.int k)).toArray:=by
  apply Array.toList_inj.1
  rw[Array.toList_map,hxs,List.map_cons,rU hT h,cI (aB hT x) hx]
 rcases hb with rfl|rfl
 ·simp[execOp,ho,resolve,invoke,hc,e1,Go.builtin,Go.Builtin.min_,zI]
 ·simp[execOp,ho,resolve,invoke,hc,e1,Go.builtin,Go.Builtin.max_,zD]
theorem Ed(hR:Rel H φ N w)(hT:cO H φ N w s a)(x:Operand)(xT t:TypeId)(ok:Bool)(ho:o.op= .typeAssert x xT t ok)(hi:isIface P t=false)(r:AV)(h:mB P t ok (closed (ao s x))=some r):dd P o a w H φ N r H:=by
 obtain⟨u,hu⟩:∃u,P.underlying t=some u∧∀ms,u≠ .interface ms:=by
  unfold isIface at hi
  split at hi
  ·cases hi
  ·rename_i d hd hn
   exact⟨_,hn,fun ms hms=>hd ms (by rw[←hms])⟩
  ·cases hi
 have no:∀v,(v= .nilIface∨∃t' u',v= .iface t' u'∧t'≠t)→lQ P t ok=some r→a.eval x=v→dd P o a w H φ N r H:=by
  intro v hv hn he
  unfold lQ at hn
  split at hn
  ·rename_i hok
   subst hok
   obtain⟨⟨z,k,b⟩,hz,rfl⟩:=Option.map_eq_some_iff.1 hn
   refine .same hR (x:= .tuple #[z,.bool false]) (.bz _ _ rfl fun i h1 h2=>?_) ?_
   ·match i,h1 with
    |0,_=>exact fL z
    |1,_=>exact .d (.v _ rfl)
   ·simp only[execOp,ho,he,Instr.typeAssert,Sem.run_bind,run_underlying hu.1,Result.andThen_ok]
    rcases hv with rfl|⟨t',u',rfl,hne⟩
    ·cases u<;>first|(exact absurd rfl (hu.2 _))|simp[TI.zero hz]
    ·cases u<;>first|(exact absurd rfl (hu.2 _))|simp[TI.zero hz,hne]
  ·cases hn
 generalize hc:closed (ao s x)=c at h
 unfold mB at h
 split at h
 ·rename_i t' u'
  have he:=cI (aB hT x) hc
  split at h
  ·rename_i ht
   subst ht
   cases h
   cases ok with
   |true=>
    refine .same hR (x:= .tuple #[u',.bool true]) (.bz _ _ rfl fun i h1 h2=>?_) ?_
    ·match i,h1 with
     |0,_=>exact fL u'
     |1,_=>exact .d (.v _ rfl)
    ·simp only[execOp,ho,he,Instr.typeAssert,Sem.run_bind,run_underlying hu.1,Result.andThen_ok]
     cases u<;>first|(exact absurd rfl (hu.2 _))|simp
   |false=>
    refine .same hR (x:=u') (fL u') ?_
    simp only[execOp,ho,he,Instr.typeAssert,Sem.run_bind,run_underlying hu.1,Result.andThen_ok]
    cases u<;>first|(exact absurd rfl (hu.2 _))|simp
  ·rename_i ht
   exact no _ (.inr ⟨_,_,rfl,ht⟩) h he
 ·exact no _ (.inl rfl) h (cI (aB hT x) hc)
 ·cases h
theorem qJ(hR:Rel H φ N w)(hT:cO H φ N w s a){c:Call}(ho:o.op= .call c){b:Builtin}(hc:c.callee= .builtin b){K:AV→aa→Prop}(h:df P s H b c.args.toList c.argTypes.toList K):
  ∃r H',K r H'∧dd P o a w H φ N r H':=by
 generalize hxs:c.args.toList=xs at h
 generalize hts:c.argTypes.toList=ts at h
 unfold df at h
 split at h
 ·rename_i x t
  have ho':=ho.trans (congrArg Op.call (oG c _ _ _ hc hxs hts))
  split at h
  ·rename_i e he
   split at h
   ·rename_i n hn
    exact⟨_,_,h,Kk hR hT x t ho' e he n hn⟩
   ·exact h.elim
  ·split at h
   ·rename_i kk kt e hmt
    split at h
    ·rename_i id hx
     split at h
     ·rename_i kk' es hob
      obtain⟨rfl,h⟩:=h
      exact⟨_,_,h,Bc hR hT x t ho' _ kt e hmt id es hx hob⟩
     ·exact h.elim
    ·exact h.elim
   ·obtain⟨hu,h⟩:=h
    split at h
    ·rename_i b hb
     exact⟨_,_,h,BJ hR hT x t ho' hu b hb⟩
    ·exact h.elim
 ·rename_i x y t t'
  have ho':=ho.trans (congrArg Op.call (oG c _ _ _ hc hxs hts))
  split at h
  ·rename_i e he
   split at h
   ·rename_i z k b hi
    obtain⟨⟨hz,hk0⟩,h⟩:=h
    split at h
    ·rename_i news hy
     obtain⟨hk,h⟩:=h
     unfold o8 at hy
     split at hy
     ·rename_i htt
      have htt:t'=t∨∃e',SE P t'=some e':=htt.imp id fun h=>Option.isSome_iff_exists.1 h
      split at h
      ·rename_i id ver len hx
       split at h
       ·rename_i e' k' ver' es hob
        obtain⟨⟨rfl,rfl,rfl,rfl⟩,hb,hm,h⟩:=h
        exact⟨_,_,h,E9 hR hT x y _ _ htt ho' e' he z k' b hi hz id ver' es news hx hob hy hk hb hm⟩
       ·exact h.elim
      ·obtain⟨hx,hb,hm,h⟩:=h
       exact⟨_,_,h,tQ hR hT x y _ _ htt ho' e he z k b hi hz hk0 news hx hy hk hb hm⟩
     ·split at hy
      ·rename_i sb hys
       split at hy
       ·rename_i hst
        obtain⟨hst,rfl⟩:=hst
        cases hy
        split at h
        ·rename_i id ver len hx
         split at h
         ·rename_i e' k' ver' es hob
          obtain⟨⟨rfl,rfl,rfl,rfl⟩,hb,hm,h⟩:=h
          exact⟨_,_,h,tM hR hT x y _ _ ho' e' he (ua.get hst) z b hi hz id ver' es sb hx hob hys hb hm⟩
         ·exact h.elim
        ·obtain⟨hx,hb,hm,h⟩:=h
         exact⟨_,_,h,oE hR hT x y _ _ ho' e he (ua.get hst) z b hi hz sb hx hys hb hm⟩
       ·cases hy
      ·cases hy
    ·exact h.elim
   ·exact h.elim
  ·exact h.elim
 ·rename_i x t
  have ho':=ho.trans (congrArg Op.call (oG c _ _ _ hc hxs hts))
  split at h
  ·rename_i e he
   split at h
   ·rename_i z k b hi
    obtain⟨⟨hz,h1⟩,h⟩:=h
    split at h
    ·rename_i id ver off len hx
     split at h
     ·rename_i e' k' ver' es hob
      obtain⟨⟨rfl,rfl,rfl⟩,h⟩:=h
      exact⟨_,_,h,HA hR hT x t ho' e' he z k' b hi hz h1 id ver' off len es hx hob⟩
     ·exact h.elim
    ·exact h.elim
   ·exact h.elim
  ·exact h.elim
 ·rename_i x y t t'
  have ho':=ho.trans (congrArg Op.call (oG c _ _ _ hc hxs hts))
  split at h
  ·rename_i e he
   split at h
   ·rename_i z k b hi
    split at h
    ·rename_i news hy
     obtain⟨hk,h⟩:=h
     split at h
     ·rename_i id ver off len hx
      split at h
      ·rename_i e' k' ver' es hob
       obtain⟨⟨rfl,rfl,rfl⟩,h⟩:=h
       exact⟨_,_,h,Jp hR hT x y t t' ho' e' he z k' b hi id ver' off len es hx hob news (GG hR (aB hT y) hy hk) hk⟩
      ·exact h.elim
     ·exact h.elim
    ·exact h.elim
   ·exact h.elim
  ·exact h.elim
 ·rename_i x xs
  split at h
  ·rename_i k n hx
   split at h
   ·rename_i ns hns
    exact⟨_,_,h,by simpa using uH (P:=P) hR hT ho .min (.inl rfl) hc x xs hxs k n hx ns hns⟩
   ·exact h.elim
  ·exact h.elim
 ·rename_i x xs
  split at h
  ·rename_i k n hx
   split at h
   ·rename_i ns hns
    exact⟨_,_,h,by simpa using uH (P:=P) hR hT ho .max (.inr rfl) hc x xs hxs k n hx ns hns⟩
   ·exact h.elim
  ·exact h.elim
 ·exact h.elim
theorem Kt(hR:Rel H φ N w)(hT:cO H φ N w s a){hint:Bool}{K:AV→aa→Prop}(h:iQ P s H hint o.op K):∃r H',K r H'∧dd P o a w H φ N r H':=by
 generalize ho:o.op=op at h
 unfold iQ at h
 split at h
 ·exact⟨_,_,h,Dr hR hT _ (.inl ho)⟩
 ·exact⟨_,_,h,Dr hR hT _ (.inr ho)⟩
 ·split at h
  ·rename_i t ht
   exact⟨_,_,h,IU hR hT _ _ _ ho t ht⟩
  ·exact h.elim
 ·split at h
  ·rename_i z k b hi
   obtain⟨g,h⟩:=h
   split at h
   ·obtain⟨id,e',hob,h⟩:=h
    exact⟨_,_,h,zJ hR _ z k b ho hi g.1 g.2.1 g.2.2 id e' hob⟩
   ·exact⟨_,_,h,HL hR _ z k b ho hi g.1 g.2.1 g.2.2⟩
  ·exact h.elim
 ·split at h
  ·rename_i cs hc
   exact⟨_,_,h.2,Kh hR hT _ _ ho cs hc h.1⟩
  ·exact h.elim
 ·split at h
  ·rename_i z k b hi
   obtain⟨hz,h⟩:=h
   split at h
   ·rename_i places hp
    split at h
    ·rename_i out hout
     exact⟨_,_,h,qS hR hT _ _ ho places hp z k b hi hz out hout⟩
    ·exact h.elim
   ·split at h
    ·rename_i n e hp
     split at h
     ·rename_i ze ke be hie
      split at h
      ·rename_i out hout
       exact⟨_,_,h,r3 hR hT _ _ ho n e hp z ze k b ke be hi hie hz out hout⟩
      ·exact h.elim
     ·exact h.elim
    ·exact h.elim
  ·exact h.elim
 ·split at h
  ·rename_i e he
   split at h
   ·rename_i z k b hi
    split at h
    ·rename_i hn
     subst hn
     obtain⟨rfl,h⟩:=h
     exact⟨_,_,h,ny hR _ ho e he z k b hi⟩
    ·obtain⟨⟨hz,h1,h24,hn⟩,h⟩:=h
     split at h
     ·rename_i out hout
      split at h
      ·rename_i ds hd
       split at h
       ·exact⟨_,_,h,oJ hR hT _ _ _ ho e he z k b hi hz h1 h24 hn out hout ds hd⟩
       ·exact⟨_,_,h,tZ hR hT _ _ _ ho e he z k b hi hz h1 h24 hn out hout ds hd⟩
      ·exact h.elim
     ·exact h.elim
   ·exact h.elim
  ·exact h.elim
 ·split at h
  ·rename_i hg
   split at h
   ·rename_i z k b hi
    split at h
    ·rename_i cs hcs
     exact⟨_,_,h,yo hR hT _ _ ho hg z k b hi cs hcs⟩
    ·exact h.elim
   ·exact h.elim
  ·rename_i hg
   split at h
   ·rename_i c hcs
    exact⟨_,_,h,yf hR hT _ _ ho hg c hcs⟩
   ·exact h.elim
  ·exact h.elim
 ·split at h
  ·rename_i z k b hi
   split at h
   ·rename_i cs hcs
    obtain⟨hk,h⟩:=h
    split at h
    ·rename_i H' hw
     exact⟨_,_,h,G3 hR hT _ _ _ ho z k b hi cs hcs hk H' hw⟩
    ·exact h.elim
   ·exact h.elim
  ·exact h.elim
 ·split at h
  ·rename_i off ft hf
   split at h
   ·rename_i z k b hi
    obtain⟨hk,hfr,h⟩:=h
    split at h
    ·rename_i y hy
     exact⟨_,_,h,vz hR hT _ _ _ ho off ft hf z k b hi hk y hy hfr⟩
    ·exact h.elim
   ·exact h.elim
  ·exact h.elim
 ·split at h
  ·rename_i off ft hf
   split at h
   ·rename_i z k b hi
    split at h
    ·rename_i cs hcs
     split at h
     ·rename_i hg
      exact⟨_,_,h.2,Ab hR hT _ _ _ ho off ft hf z k b hi cs hcs true hg _ (by simpa using h.1)⟩
     ·rename_i hg
      split at h
      ·rename_i y hy
       exact⟨_,_,h,Ab hR hT _ _ _ ho off ft hf z k b hi cs hcs false hg y (by simpa using hy)⟩
      ·exact h.elim
     ·exact h.elim
    ·exact h.elim
   ·exact h.elim
  ·exact h.elim
 ·split at h
  ·rename_i ik i hix
   split at h
   ·rename_i e he
    split at h
    ·rename_i z k b hi
     split at h
     ·rename_i y hy
      exact⟨_,_,h,vH hR hT _ _ _ ho e he z k b hi ik i hix y hy⟩
     ·exact h.elim
    ·exact h.elim
   ·split at h
    ·rename_i n e he
     split at h
     ·rename_i z k b hi
      obtain⟨h0,h1,hfr,h⟩:=h
      split at h
      ·rename_i y hy
       exact⟨_,_,h,pW hR hT _ _ _ ho n e he z k b hi ik i hix h0 h1 y hy hfr⟩
      ·exact h.elim
     ·exact h.elim
    ·exact h.elim
  ·exact h.elim
 ·obtain⟨hu,h⟩:=h
  split at h
  ·rename_i b k i hx hi
   obtain⟨h0,h⟩:=h
   split at h
   ·rename_i u hb
    exact⟨_,_,h,xD hR hT _ _ _ ho hu b hx k i hi h0 u hb⟩
   ·exact h.elim
  ·exact h.elim
 ·split at h
  ·rename_i e he
   split at h
   ·rename_i z k b hi
    unfold eB at h
    split at h
    ·rename_i nn es hx
     obtain⟨hes,h⟩:=h
     split at h
     ·rename_i l hh hl hhh
      obtain⟨h0,h1,h2,h⟩:=h
      exact⟨_,_,h,tN hR hT _ _ _ _ ho e he z k b hi nn es hx hes l hh hl hhh h0 h1 h2⟩
     ·exact h.elim
    ·rename_i id ver off len hx
     split at h
     ·rename_i ob l hh hob hl hhh
      obtain⟨⟨h00,h01,_⟩,h0,h1,h2,h3,h⟩:=h
      exact⟨_,_,h,xW hR hT _ _ _ _ ho e he z k b hi id ver off len hx ob hob h00 h01 l hh hl hhh h0 h1 h2 h3⟩
     ·exact h.elim
    ·exact h.elim
   ·exact h.elim
  ·split at h
   ·rename_i n e hae
    obtain⟨⟨hlo,hhi⟩,h⟩:=h
    split at h
    ·rename_i z k b hi
     obtain⟨rfl,h⟩:=h
     unfold zw at h
     split at h
     ·rename_i ds hx
      exact⟨_,_,h.2,tJ hR hT _ _ _ _ ho hlo hhi e n hae z b hi ds hx h.1⟩
     ·exact h.elim
    ·exact h.elim
   ·obtain⟨hu,h⟩:=h
    split at h
    ·rename_i b hx
     split at h
     ·rename_i l hh hl hhh
      obtain⟨h0,h1,h2,h⟩:=h
      exact⟨_,_,h,xi hR hT _ _ _ _ ho hu b hx l hh hl hhh h0 h1 h2⟩
     ·exact h.elim
    ·exact h.elim
 ·split at h
  ·rename_i e he
   split at h
   ·rename_i z k b hi
    unfold iq at h
    split at h
    ·rename_i nn es hx
     obtain⟨hes,h⟩:=h
     split at h
     ·rename_i l hh m hl hhh hmm
      obtain⟨h0,h1,h2,h3,h⟩:=h
      exact⟨_,_,h,te hR hT _ _ _ _ _ ho e he z k b hi nn es hx hes l hh m hl hhh hmm h0 h1 h2 h3⟩
     ·exact h.elim
    ·exact h.elim
   ·exact h.elim
  ·exact h.elim
 ·split at h
  ·rename_i n e nn es hae hx
   split at h
   ·rename_i ds hds
    obtain⟨⟨h0,h1⟩,h⟩:=h
    rw[C4 hds]at hx
    exact⟨_,_,h,A4 hR hT _ _ ho e n hae nn ds hx h0 h1⟩
   ·exact h.elim
  ·exact h.elim
 ·obtain⟨hi,h⟩:=h
  split at h
  ·rename_i r hr
   exact⟨_,_,h,Ed hR hT _ _ _ _ ho hi r hr⟩
  ·exact h.elim
 ·split at h
  ·rename_i u v hx hy
   obtain⟨r,hr,h⟩:=Jj h
   exact⟨_,_,h,K9 hR hT _ _ _ _ _ ho u v r hx hy hr⟩
  ·exact⟨_,_,h.2,Fz hR hT _ _ _ _ _ ho h.1⟩
 ·split at h
  ·rename_i u hx
   obtain⟨r,h,hok⟩:=MG hR hT _ _ _ ho u hx _ h
   exact⟨_,_,h,hok⟩
  ·exact h.elim
 ·split at h
  ·rename_i e he
   obtain⟨h1,h2,h⟩:=h
   split at h
   ·rename_i nn es hx
    split at h
    ·rename_i ns hn
     exact⟨_,_,h,pM hR hT _ _ _ _ ho he h1 h2 nn es ns hx hn⟩
    ·exact h.elim
   ·exact h.elim
  ·split at h
   ·rename_i ks n hx
    split at h
    ·rename_i k' k hk' hk
     exact⟨_,_,h,rG hR hT _ _ _ ho ks k' n hx hk' k hk⟩
    ·exact h.elim
   ·exact h.elim
 ·split at h
  ·rename_i cs hx
   split at h
   ·rename_i c hc
    exact⟨_,_,h,Be hR hT _ _ ho cs hx c hc⟩
   ·exact h.elim
  ·exact h.elim
 ·obtain⟨rfl,h⟩:=h
  exact⟨_,_,h,zp hR hT _ _ ho⟩
 ·exact⟨_,_,h.2,zz hR hT _ ho h.1⟩
 ·split at h
  ·rename_i u hx
   exact⟨_,_,h.2,pg hR hT _ _ ho u hx h.1⟩
  ·exact h.elim
 ·split at h
  ·rename_i kk kt e hmt
   exact⟨_,_,h,BA hR _ ho kk kt e hmt⟩
  ·exact h.elim
 ·split at h
  ·rename_i e he
   split at h
   ·rename_i z k b hi
    split at h
    ·rename_i kl n kc m hl hc
     obtain⟨⟨h1,h2,h3,rfl,h5,h6,h7⟩,h⟩:=h
     exact⟨_,_,h,wS hR hT _ _ _ ho e he z k b hi h1 h2 h3 kl kc m hl hc h5 h6 h7⟩
    ·exact h.elim
   ·exact h.elim
  ·exact h.elim
 ·split at h
  ·rename_i kk kt e hmt
   split at h
   ·rename_i id hx
    split at h
    ·rename_i kk' es hob
     obtain⟨rfl,h⟩:=h
     exact⟨_,_,h,GH hR hT _ _ ho _ kt e hmt id es hx hob⟩
    ·exact h.elim
   ·exact h.elim
  ·exact h.elim
 ·split at h
  ·rename_i id hx
   split at h
   ·rename_i m since seen hob
    split at h
    ·rename_i kk es j hm hj
     split at h
     ·rename_i e he
      obtain⟨rfl,h⟩:=h
      exact⟨_,_,h,HC hR hT _ ho id m seen kk es hx hob hm j hj e he⟩
     ·exact h.elim
    ·exact h.elim
   ·exact h.elim
  ·exact h.elim
 ·split at h
  ·rename_i id hx
   split at h
   ·rename_i m since seen hob
    split at h
    ·rename_i kk es hm
     obtain⟨rfl,h1,h2⟩:=h
     rcases IT hR hT _ ho id m seen kk es hx hob hm with⟨g1,g2⟩|⟨j,e,g1,g2,g3⟩
     ·exact⟨_,_,h1 g1,g2⟩
     ·exact⟨_,_,h2 j e g1 g2,g3⟩
    ·exact h.elim
   ·exact h.elim
  ·exact h.elim
 ·split at h
  ·rename_i kk kt e hmt
   split at h
   ·rename_i z k b hi
    split at h
    ·rename_i id hx
     split at h
     ·rename_i kk' es hob
      split at h
      ·rename_i ki n hix
       obtain⟨⟨rfl,rfl⟩,h⟩:=h
       exact⟨_,_,h,EB hR hT _ _ _ _ ho _ kt e hmt z k b hi id es hx hob n hix⟩
      ·exact h.elim
     ·exact h.elim
    ·exact h.elim
   ·exact h.elim
  ·exact h.elim
 ·split at h
  ·rename_i kk kt e hmt
   split at h
   ·rename_i id hx
    split at h
    ·rename_i kk' es hob
     split at h
     ·rename_i ki n hix
      obtain⟨⟨rfl,rfl⟩,h⟩:=h
      exact⟨_,_,h,nY hR hT _ _ _ _ (.inl ho) _ kt e hmt id es hx hob n hix⟩
     ·exact h.elim
    ·exact h.elim
   ·exact h.elim
  ·exact h.elim
 ·split at h
  ·rename_i kk kt e hmt
   split at h
   ·rename_i id hx
    split at h
    ·rename_i kk' es hob
     split at h
     ·rename_i ki n hix
      obtain⟨⟨rfl,rfl⟩,h⟩:=h
      exact⟨_,_,h,nY hR hT _ _ _ _ (.inr ho) _ kt e hmt id es hx hob n hix⟩
     ·exact h.elim
    ·exact h.elim
   ·exact h.elim
  ·exact h.elim
 ·split at h
  ·rename_i c b hb
   exact qJ hR hT ho hb h
  ·exact h.elim
 ·exact h.elim
end
end Go.Proofs.YtmbagpfmfiegkaaGreatAw

/- Contracts of functions and lemmas for planAll_holds, part 1. -/
import Derived.Calls
import Derived.Orders
import Derived.LoopN
import Derived.Laws.CopyRow
import Derived.Laws.AppendOwn
import Derived.Maps.AppendAt
import Derived.RowKit3
import Derived.Below
import Derived.WalkKit
import Derived.Lib.AppendStr
import Derived.Great.BuildSlice
set_option maxHeartbeats 8000000
set_option maxRecDepth 100000
set_option linter.all false
attribute [go_sem] eq_self
namespace Go.Proofs.YtggohfhfocgilaaGreatAw
open Go.RowKit
inductive D where
 |v (x:Value)
 |list (nn:Bool) (es:List (List D))
instance:Inhabited D:=⟨.v undef⟩
inductive AV where
 |top
 |d (x:D)
 |di
 |ptr (id ver i j:Nat)
 |cc (cs:List D)
 |sl (id ver off len:Nat)
 |agg (cs:List AV)
 |a7 (vs:List AV)
 |fn (f:FuncId) (caps:List AV)
 |mp (id:Nat)
 |gq (id:Nat)
instance:Inhabited AV:=⟨.top⟩
inductive ay where
 |arr (e:TypeId) (k ver:Nat) (es:List (List D))
 |box (e:TypeId) (k ver n:Nat) (cs:List AV)
 |mp (kk:IntKind) (es:List (Int×AV))
 |dead (ver:Nat)
 |iter (m since:Nat) (seen:List Nat)
 |lp (r:Loop) (s:Nat→AV)
abbrev aa:=List ay
def ay.k:ay→Nat
 | .arr _ k _ _=>k
 | .box _ k _ _ _=>k
 | .mp _ _=>1
 | .dead _=>1
 | .iter _ _ _=>1
 | .lp _ _=>1
def ay.ver:ay→Nat
 | .arr _ _ ver _=>ver
 | .box _ _ ver _ _=>ver
 | .mp _ _=>0
 | .dead ver=>ver
 | .iter _ _ _=>0
 | .lp _ _=>0
def ay.live:ay→Bool
 | .dead _=>false
 |_=>true
def ay.len:ay→Nat
 | .arr _ _ _ es=>es.length
 | .box _ _ _ n _=>n
 | .mp _ _=>0
 | .dead _=>0
 | .iter _ _ _=>0
 | .lp _ _=>0
inductive RD (N:Addr→Prop) (w:World):D→Value→Prop
 |v (x:Value) (hx:x.oneCell'=true):RD N w (.v x) x
 |nil (A:Option Addr) (c:Nat) (h:A=none→c=0):RD N w (.list false []) (.slice A 0 c)
 |list (nn:Bool) (es:List (List D)) (ad:Addr) (cap k:Nat) (c:Nat→Nat→Value) (hc:es.length≤cap) (hk:∀e∈es,e.length=k)
   (h:∀i j,i<es.length→j<k→N (ad.add (i* k+j))∧w.cell? (ad.add (i* k+j))=some (c i j))
   (hd:∀i (hi:i<es.length) j (hj:j<(es[i]).length),RD N w ((es[i])[j]) (c i j)):RD N w (.list nn es) (.slice (some ad) es.length cap)
theorem RD.mono{N N':Addr→Prop}{w w':World}{x:D}{y:Value}(h:RD N w x y)(hN:∀a,N a→N' a)
  (hw:∀a v,N a→w.cell? a=some v→w'.cell? a=some v):RD N' w' x y:=by
 induction h with
 |v _ hx=>exact .v _ hx
 |nil A c h=>exact .nil A c h
 |list nn es ad cap k c hc hk h hd ih=>
  exact .list nn es ad cap k c hc hk (fun i j hi hj=>⟨hN _ (h i j hi hj).1,hw _ _ (h i j hi hj).1 (h i j hi hj).2⟩) ih
abbrev aK:=Nat→Option (Nat×Nat)
inductive RA (H:aa) (φ:aK) (N:Addr→Prop) (w:World):AV→Value→Prop
 |top (x:Value):RA H φ N w .top x
 |d {x:D} {y:Value} (h:RD N w x y):RA H φ N w (.d x) y
 |di (A:Option Addr):RA H φ N w .di (.slice A 0 0)
 |ptr (id ver i j:Nat) (A:Option Addr) (o:ay) (ho:H[id]?=some o) (hv:ver≤o.ver)
   (h:ver=o.ver→∃B c,φ id=some (B,c)∧A=some ⟨B,i* o.k+j,none⟩):RA H φ N w (.ptr id ver i j) (.pointer A)
 |cc (cs:List D) (ad:Addr) (c:Nat→Value) (h:∀t,t<cs.length→N (ad.add t)∧w.cell? (ad.add t)=some (c t))
   (hd:∀t (ht:t<cs.length),RD N w (cs[t]) (c t)):RA H φ N w (.cc cs) (.pointer (some ad))
 |sl (id ver off len:Nat) (A:Option Addr) (l m:Nat) (o:ay) (ho:H[id]?=some o) (hv:ver≤o.ver)
   (h:ver=o.ver→l=len∧off+len≤o.len∧((φ id=none∧len=0∧off=0∧m=0)∨
    ∃B c,φ id=some (B,c)∧off+len≤c∧A=some ⟨B,off* o.k,none⟩∧m=c-off)):RA H φ N w (.sl id ver off len) (.slice A l m)
 |agg (cs:List AV) (vs:Array Value) (hl:cs.length=vs.size) (h:∀i (h1:i<cs.length) (h2:i<vs.size),RA H φ N w (cs[i]) (vs[i])):RA H φ N w (.agg cs) (.agg vs)
 |a7 (cs:List AV) (vs:Array Value) (hl:cs.length=vs.size) (h:∀i (h1:i<cs.length) (h2:i<vs.size),RA H φ N w (cs[i]) (vs[i])):RA H φ N w (.a7 cs) (.tuple vs)
 |fn (f:FuncId) (cs:List AV) (vs:Array Value) (hl:cs.length=vs.size) (h:∀i (h1:i<cs.length) (h2:i<vs.size),RA H φ N w (cs[i]) (vs[i])):
   RA H φ N w (.fn f cs) (.func (.func f) #[] vs)
 |mp (id B c:Nat) (kk:IntKind) (es:List (Int×AV)) (ho:H[id]?=some (.mp kk es)) (hp:φ id=some (B,c)):RA H φ N w (.mp id) (.map (some B))
 |gq (id B:Nat) (o:ay) (ho:H[id]?=some o) (h:o.ver=0→∃c,φ id=some (B,c)):RA H φ N w (.gq id) (.func (.yield B) #[] #[])
inductive jD (H:aa) (φ:aK) (N:Addr→Prop) (w:World) (id:Nat):ay→Prop
 |arr (e:TypeId) (k ver:Nat) (es:List (List D)) (hk:0<k) (hes:∀c∈es,c.length=k)
   (h:(φ id=none∧es=[])∨∃(B cap:Nat) (cur:Array Value),φ id=some (B,cap)∧w.heap[B]?=some (.cells cur e (0,0))∧es.length≤cap∧cap≤maxLen∧cur.size=cap* k∧
    ∀i (hi:i<es.length) j (hj:j<(es[i]).length),∃c,cur[i* k+j]?=some c∧RD N w ((es[i])[j]) c):jD H φ N w id (.arr e k ver es)
 |box (e:TypeId) (k ver n:Nat) (cs:List AV) (B cap:Nat) (cur:Array Value) (hk:0<k) (hn:cs.length=n* k) (hp:φ id=some (B,cap)) (hb:w.heap[B]?=some (.cells cur e (0,0)))
   (hc:n≤cap) (hm:cap≤maxLen) (hs:cur.size=cap* k) (h:∀j (hj:j<cs.length),∃c,cur[j]?=some c∧RA H φ N w (cs[j]) c):jD H φ N w id (.box e k ver n cs)
 |mp (kk:IntKind) (es:List (Int×AV)) (B cap:Nat) (ents:Array MapEntry) (clock:Nat) (hp:φ id=some (B,cap)) (hb:w.heap[B]?=some (.map ents clock)) (hs:ents.size=es.length) (hck:clock=ents.size) (hbn:∀j (hj:j<ents.size),(ents[j]).born=j)
   (h:∀j (hj:j<es.length) (hj2:j<ents.size),(ents[j]).key= .int kk (es[j]).1∧RA H φ N w (es[j]).2 (ents[j]).val):jD H φ N w id (.mp kk es)
 |dead (ver:Nat) (hp:φ id=none):jD H φ N w id (.dead ver)
 |iter (m since:Nat) (seen:List Nat) (B cap bm cm:Nat) (kk:IntKind) (es:List (Int×AV)) (hp:φ id=some (B,cap)) (hb:w.heap[B]?=some (.mapIter (some bm) since seen.toArray since)) (hm:H[m]?=some (.mp kk es)) (hpm:φ m=some (bm,cm)):
   jD H φ N w id (.iter m since seen)
 |lp (r:Loop) (s:Nat→AV) (B cap:Nat) (hp:φ id=some (B,cap)) (hb:w.heap[B]?=some (.loop r)) (h:∀t,RA H φ N w (s t) (r.tmps.getD t undef)):jD H φ N w id (.lp r s)
structure Rel (H:aa) (φ:aK) (N:Addr→Prop) (w:World):Prop where
 obj:∀id o,H[id]?=some o→jD H φ N w id o
 inj:∀i j B c c',i<H.length→j<H.length→φ i=some (B,c)→φ j=some (B,c')→i=j
 live:∀a,N a→∃v,w.cell? a=some v
 apart:∀a id B c,N a→id<H.length→φ id=some (B,c)→a.block≠B
structure au (H0:aa) (φ0:aK) (N0:Addr→Prop) (w0:World) (H:aa) (φ:aK) (N:Addr→Prop) (w:World):Prop where
 len:H0.length≤H.length
 os:w.os=w0.os
 tape:w.tape=w0.tape
 output:w.output=w0.output
 size:w0.heap.size≤w.heap.size
 cM:∀k,k<w0.heap.size→(∀id c,id<H0.length→φ0 id≠some (k,c))→w.heap[k]?=w0.heap[k]?
 own:∀id B c,id<H.length→φ id=some (B,c)→B<w0.heap.size→∃id0 c0,id0<H0.length∧φ0 id0=some (B,c0)
 mono:∀a,N0 a→N a
 bM:∀id o,H0[id]?=some o→∃o',H[id]?=some o'∧o'.k=o.k∧o.ver≤o'.ver∧(o.ver=o'.ver→φ id=φ0 id∧o.len≤o'.len)∧∀kk es,o= .mp kk es→φ id=φ0 id∧∃es',o'= .mp kk es'
 nU:∀a,N a→N0 a∨w0.heap.size≤a.block∨∃id c,id<H0.length∧φ0 id=some (a.block,c)
theorem aj{H:aa}{id:Nat}{o:ay}(h:H[id]?=some o):id<H.length:=by
 rcases Nat.lt_or_ge id H.length with h'|h'
 ·exact h'
 ·simp[List.getElem?_eq_none h']at h
theorem au.refl{H:aa}{φ:aK}{N:Addr→Prop}{w:World}:au H φ N w H φ N w:=
 ⟨Nat.le_refl _,rfl,rfl,rfl,Nat.le_refl _,fun _ _ _=>rfl,fun id B c hid h _=>⟨id,c,hid,h⟩,fun _ h=>h,
  fun _ o h=>⟨o,h,rfl,Nat.le_refl _,fun _=>⟨rfl,Nat.le_refl _⟩,fun kk es h=>⟨rfl,es,h⟩⟩,fun _ h=> .inl h⟩
theorem au.trans{H0 H1 H2:aa}{φ0 φ1 φ2:aK}{N0 N1 N2:Addr→Prop}{w0 w1 w2:World}(h:au H0 φ0 N0 w0 H1 φ1 N1 w1)(g:au H1 φ1 N1 w1 H2 φ2 N2 w2):
  au H0 φ0 N0 w0 H2 φ2 N2 w2 where
 len:=Nat.le_trans h.len g.len
 os:=g.os.trans h.os
 tape:=g.tape.trans h.tape
 output:=g.output.trans h.output
 size:=Nat.le_trans h.size g.size
 cM k hk hn:=by
  rw[g.cM k (Nat.lt_of_lt_of_le hk h.size) ?_,h.cM k hk hn]
  intro id c hid hc
  obtain⟨id0,c0,hi0,h0⟩:=h.own id k c hid hc hk
  exact hn id0 c0 hi0 h0
 own id _ c hid hc hB:=by
  obtain⟨id1,c1,hi1,h1⟩:=g.own id _ c hid hc (Nat.lt_of_lt_of_le hB h.size)
  exact h.own id1 _ c1 hi1 h1 hB
 mono a ha:=g.mono a (h.mono a ha)
 bM id o ho:=by
  obtain⟨o1,ho1,hk1,hv1,hq1,hm1⟩:=h.bM id o ho
  obtain⟨o2,ho2,hk2,hv2,hq2,hm2⟩:=g.bM id o1 ho1
  refine⟨o2,ho2,hk2.trans hk1,Nat.le_trans hv1 hv2,fun he=>?_,fun kk es he=>?_⟩
  ·obtain⟨p1,l1⟩:=hq1 (by omega)
   obtain⟨p2,l2⟩:=hq2 (by omega)
   exact⟨p2.trans p1,Nat.le_trans l1 l2⟩
  ·obtain⟨p1,es1,e1⟩:=hm1 kk es he
   obtain⟨p2,es2,e2⟩:=hm2 kk es1 e1
   exact⟨p2.trans p1,es2,e2⟩
 nU a ha:=by
  rcases g.nU a ha with h1|h1|⟨id,c,hid,hp⟩
  ·exact h.nU a h1
  ·exact .inr (.inl (Nat.le_trans h.size h1))
  ·rcases Nat.lt_or_ge a.block w0.heap.size with hl|hl
   ·obtain⟨id0,c0,h2,h3⟩:=h.own id _ c hid hp hl
    exact .inr (.inr ⟨id0,c0,h2,h3⟩)
   ·exact .inr (.inl hl)
theorem au.cell{H0 H:aa}{φ0 φ:aK}{N0 N:Addr→Prop}{w0 w:World}(hR:Rel H0 φ0 N0 w0)(h:au H0 φ0 N0 w0 H φ N w):
  ∀a v,N0 a→w0.cell? a=some v→w.cell? a=some v:=by
 intro a v ha hv
 have hb:=World.block_lt_of_cell? w0 a hv
 rw[World.cell?_of_block (h.cM a.block hb fun id c hid hc=>hR.apart a id a.block c ha hid hc rfl)]
 exact hv
theorem RD.since{H0 H:aa}{φ0 φ:aK}{N0 N:Addr→Prop}{w0 w:World}(hR:Rel H0 φ0 N0 w0)(h:au H0 φ0 N0 w0 H φ N w){x:D}{v:Value}(hx:RD N0 w0 x v):RD N w x v:=
 hx.mono h.mono (h.cell hR)
theorem RA.since{H0 H:aa}{φ0 φ:aK}{N0 N:Addr→Prop}{w0 w:World}(hR:Rel H0 φ0 N0 w0)(h:au H0 φ0 N0 w0 H φ N w){x:AV}{v:Value}(hx:RA H0 φ0 N0 w0 x v):RA H φ N w x v:=by
 induction hx with
 |top=>exact .top _
 |d hd=>exact .d (hd.since hR h)
 |di=>exact .di _
 |ptr id ver i j A o ho hv hp=>
  obtain⟨o',ho',hk,hv',hq,_⟩:=h.bM id o ho
  refine .ptr id ver i j A o' ho' (Nat.le_trans hv hv') fun he=>?_
  obtain⟨p,_⟩:=hq (by omega)
  obtain⟨B,c,h1,h2⟩:=hp (by omega)
  exact⟨B,c,p.trans h1,by rw[hk];exact h2⟩
 |cc cs ad c hc hd=>exact .cc cs ad c (fun t ht=>⟨h.mono _ (hc t ht).1,h.cell hR _ _ (hc t ht).1 (hc t ht).2⟩) fun t ht=>(hd t ht).since hR h
 |sl id ver off len A l m o ho hv hp=>
  obtain⟨o',ho',hk,hv',hq,_⟩:=h.bM id o ho
  refine .sl id ver off len A l m o' ho' (Nat.le_trans hv hv') fun he=>?_
  obtain⟨p,hl⟩:=hq (by omega)
  obtain⟨h0,h1,h2⟩:=hp (by omega)
  refine⟨h0,Nat.le_trans h1 hl,?_⟩
  rcases h2 with⟨h3,h4⟩|⟨B,c,h3,h4,h5,h6⟩
  ·exact .inl ⟨p.trans h3,h4⟩
  ·exact .inr ⟨B,c,p.trans h3,h4,by rw[hk];exact h5,h6⟩
 |agg cs vs hl _ ih=>exact .agg cs vs hl ih
 |a7 cs vs hl _ ih=>exact .a7 cs vs hl ih
 |fn f cs vs hl _ ih=>exact .fn f cs vs hl ih
 |mp id B c kk es ho hp=>
  obtain⟨o',ho',_,_,_,hm⟩:=h.bM id _ ho
  obtain⟨p,es',rfl⟩:=hm kk es rfl
  exact .mp id B c kk es' ho' (p.trans hp)
 |gq id B o ho hp=>
  obtain⟨o',ho',_,hv',hq,_⟩:=h.bM id o ho
  refine .gq id B o' ho' fun he=>?_
  obtain⟨c,h1⟩:=hp (by omega)
  exact⟨c,(hq (by omega)).1.trans h1⟩
def AV.one:AV→Bool
 | .top| .agg _| .a7 _=>false
 |_=>true
theorem RD.one{N:Addr→Prop}{w:World}{x:D}{y:Value}(h:RD N w x y):y.oneCell'=true:=by
 cases h with
 |v _ hx=>exact hx
 |nil=>rfl
 |list=>rfl
theorem RA.one{H:aa}{φ:aK}{N:Addr→Prop}{w:World}{x:AV}{y:Value}(h:RA H φ N w x y)(h1:x.one=true):y.oneCell'=true:=by
 cases h with
 |top=>cases h1
 |d hd=>exact hd.one
 |agg=>cases h1
 |a7=>cases h1
 |_=>rfl
theorem jD.cj{H:aa}{φ:aK}{N:Addr→Prop}{w:World}{id:Nat}{o:ay}(h:jD H φ N w id o){B c:Nat}(hp:φ id=some (B,c)):B<w.heap.size:=by
 cases h with
 |arr e k ver es hk hes h=>
  rcases h with⟨h0,_⟩|⟨B',cap,cur,h1,h2,_⟩
  ·rw[h0]at hp;cases hp
  ·rw[h1]at hp;cases hp
   exact(Array.getElem?_eq_some_iff.1 h2).1
 |box e k ver n cs B' cap cur hk hn hp' hb=>
  rw[hp']at hp;cases hp
  exact(Array.getElem?_eq_some_iff.1 hb).1
 |mp kk es B' cap ents clock hp' hb=>
  rw[hp']at hp;cases hp
  exact(Array.getElem?_eq_some_iff.1 hb).1
 |dead ver hp'=>rw[hp']at hp;cases hp
 |iter m since seen B' cap bm cm kk es hp' hb=>
  rw[hp']at hp;cases hp
  exact(Array.getElem?_eq_some_iff.1 hb).1
 |lp r s B' cap hp' hb=>
  rw[hp']at hp;cases hp
  exact(Array.getElem?_eq_some_iff.1 hb).1
theorem Rel.cj{H:aa}{φ:aK}{N:Addr→Prop}{w:World}(hR:Rel H φ N w){id B c:Nat}(hid:id<H.length)(hp:φ id=some (B,c)):B<w.heap.size:=
 (hR.obj id _ (List.getElem?_eq_getElem hid)).cj hp
theorem Rel.th{H:aa}{φ:aK}{N:Addr→Prop}{w:World}(hR:Rel H φ N w){a:Addr}(ha:N a):a.block<w.heap.size:=by
 obtain⟨v,hv⟩:=hR.live a ha
 exact World.block_lt_of_cell? w a hv
theorem jD.cM{H H':aa}{φ φ':aK}{N N':Addr→Prop}{w w':World}(hR:Rel H φ N w)(hS:au H φ N w H' φ' N' w'){id:Nat}{o:ay}
  (hp:φ' id=φ id) (hb:∀B c,φ id=some (B,c)→w'.heap[B]?=w.heap[B]?) (h:jD H φ N w id o):jD H' φ' N' w' id o:=by
 cases h with
 |arr e k ver es hk hes h=>
  refine .arr e k ver es hk hes ?_
  rcases h with⟨h0,h1⟩|⟨B,cap,cur,h1,h2,h3,h4,h5,h6⟩
  ·exact .inl ⟨hp.trans h0,h1⟩
  ·refine .inr ⟨B,cap,cur,hp.trans h1,(hb B cap h1).trans h2,h3,h4,h5,fun i hi j hj=>?_⟩
   obtain⟨c,hc,hd⟩:=h6 i hi j hj
   exact⟨c,hc,hd.since hR hS⟩
 |box e k ver n cs B cap cur hk hn hp' hb' hc hm hs h=>
  refine .box e k ver n cs B cap cur hk hn (hp.trans hp') ((hb B cap hp').trans hb') hc hm hs fun j hj=>?_
  obtain⟨c,hc,hd⟩:=h j hj
  exact⟨c,hc,hd.since hR hS⟩
 |mp kk es B cap ents clock hp' hb' hs hck hbn h=>
  exact .mp kk es B cap ents clock (hp.trans hp') ((hb B cap hp').trans hb') hs hck hbn fun j hj hj2=>⟨(h j hj hj2).1,(h j hj hj2).2.since hR hS⟩
 |dead ver hp'=>exact .dead ver (hp.trans hp')
 |iter m since seen B cap bm cm kk es hp' hb' hm hpm=>
  obtain⟨o',ho',_,_,_,hmm⟩:=hS.bM m _ hm
  obtain⟨g1,es',rfl⟩:=hmm kk es rfl
  exact .iter m since seen B cap bm cm kk es' (hp.trans hp') ((hb B cap hp').trans hb') ho' (g1.trans hpm)
 |lp r s B cap hp' hb' h=>exact .lp r s B cap (hp.trans hp') ((hb B cap hp').trans hb') fun t=>(h t).since hR hS
theorem au.drawn{H:aa}{φ:aK}{N:Addr→Prop}{w w':World}(hh:w'.heap=w.heap)(ho:w'.os=w.os)(ht:w'.tape=w.tape)(hu:w'.output=w.output):au H φ N w H φ N w':=
 ⟨Nat.le_refl _,ho,ht,hu,by rw[hh];exact Nat.le_refl _,fun _ _ _=>by rw[hh],fun id B c hid h _=>⟨id,c,hid,h⟩,fun _ h=>h,
  fun _ o h=>⟨o,h,rfl,Nat.le_refl _,fun _=>⟨rfl,Nat.le_refl _⟩,fun kk es h=>⟨rfl,es,h⟩⟩,fun _ h=> .inl h⟩
theorem Rel.drawn{H:aa}{φ:aK}{N:Addr→Prop}{w w':World}(hR:Rel H φ N w)(hh:w'.heap=w.heap)(ho:w'.os=w.os)(ht:w'.tape=w.tape)(hu:w'.output=w.output):Rel H φ N w' where
 obj id o h:=(hR.obj id o h).cM hR (au.drawn hh ho ht hu) rfl fun B c _=>by rw[hh]
 inj:=hR.inj
 live a ha:=by obtain⟨v,hv⟩:=hR.live a ha;exact⟨v,by rw[World.cell?_of_block (w:=w) (by rw[hh])];exact hv⟩
 apart:=hR.apart
theorem au.fixed{H:aa}{φ:aK}{N:Addr→Prop}{w:World}(hR:Rel H φ N w)(o:Obj)(N':Addr→Prop)(hN:∀a,N a→N' a)(hN':∀a,N' a→N a∨a.block=w.heap.size):au H φ N w H φ N' (w.alloc o):=
 ⟨Nat.le_refl _,rfl,rfl,rfl,by simp,fun k hk _=>Below.heap_alloc w o k hk,fun id B c hid h _=>⟨id,c,hid,h⟩,hN,
  fun _ o h=>⟨o,h,rfl,Nat.le_refl _,fun _=>⟨rfl,Nat.le_refl _⟩,fun kk es h=>⟨rfl,es,h⟩⟩,fun a h=>(hN' a h).imp_right fun e=> .inl (Nat.le_of_eq e.symm)⟩
theorem Rel.fixed{H:aa}{φ:aK}{N:Addr→Prop}{w:World}(hR:Rel H φ N w)(cs:Array Value)(e:TypeId)(fr:Nat×Nat):
  Rel H φ (fun a=>N a∨(a.block=w.heap.size∧a.spot=none∧a.off<cs.size)) (w.alloc (.cells cs e fr))where
 obj id o h:=(hR.obj id o h).cM hR (au.fixed hR _ _ (fun _ h=> .inl h) fun _ h=>h.imp_right And.left) rfl fun B c hp=>Below.heap_alloc w _ B ((hR.obj id o h).cj hp)
 inj:=hR.inj
 live a ha:=by
  rcases ha with ha|⟨h1,h2,h3⟩
  ·obtain⟨v,hv⟩:=hR.live a ha
   exact⟨v,by rw[World.cell?_of_block (w:=w) (Below.heap_alloc w _ _ (World.block_lt_of_cell? w a hv))];exact hv⟩
  ·refine⟨cs[a.off],?_⟩
   have hg:(w.alloc (.cells cs e fr)).heap[a.block]?=some (.cells cs e fr):=by rw[h1];exact heap_alloc_new w _
   simp[World.cell?,hg,h2,h3]
 apart a id B c ha hid hp:=by
  have hB:=hR.cj hid hp
  rcases ha with ha|⟨h1,_⟩
  ·exact hR.apart a id B c ha hid hp
  ·omega
def aK.put(φ:aK)(id:Nat)(p:Option (Nat×Nat)):aK:=fun i=>if i=id then p else φ i
theorem aK.aD(φ:aK)(id:Nat)(p:Option (Nat×Nat)):φ.put id p id=p:=by simp[aK.put]
theorem aK.aR(φ:aK)(id i:Nat)(p:Option (Nat×Nat))(h:i≠id):φ.put id p i=φ i:=by simp[aK.put,h]
theorem pn{H:aa}{o o':ay}{id:Nat}(h:(H++[o])[id]?=some o'):(H[id]?=some o'∧id<H.length)∨(id=H.length∧o'=o):=by
 rcases Nat.lt_or_ge id H.length with h'|h'
 ·rw[List.getElem?_append_left h']at h;exact .inl ⟨h,h'⟩
 ·rw[List.getElem?_append_right h']at h
  have:id-H.length=0:=by
   rcases Nat.eq_zero_or_pos (id-H.length)with h0|h0
   ·exact h0
   ·rw[List.getElem?_eq_none (by simp only[List.length_singleton];omega)]at h;cases h
  rw[this]at h
  simp at h
  exact .inr ⟨by omega,h.symm⟩
theorem au.new{H:aa}{φ:aK}{N:Addr→Prop}{w:World}(hR:Rel H φ N w)(ob:Obj)(o:ay)(cap:Nat):
  au H φ N w (H++[o]) (φ.put H.length (some (w.heap.size,cap))) N (w.alloc ob)where
 len:=by simp
 os:=rfl
 tape:=rfl
 output:=rfl
 size:=by simp
 cM k hk _:=Below.heap_alloc w _ k hk
 own id B c hid hp hB:=by
  by_cases he:id=H.length
  ·subst he;rw[aK.aD]at hp;cases hp;omega
  ·rw[aK.aR _ _ _ _ he]at hp
   exact⟨id,c,by simp at hid;omega,hp⟩
 mono _ h:=h
 bM id o' h:=⟨o',by rw[List.getElem?_append_left (aj h)];exact h,rfl,Nat.le_refl _,
  fun _=>⟨aK.aR _ _ _ _ (Nat.ne_of_lt (aj h)),Nat.le_refl _⟩,fun kk es he=>⟨aK.aR _ _ _ _ (Nat.ne_of_lt (aj h)),es,he⟩⟩
 nU _ h:= .inl h
theorem Rel.new{H:aa}{φ:aK}{N:Addr→Prop}{w:World}(hR:Rel H φ N w)(ob:Obj)(o:ay)(cap:Nat)
  (hnew:jD (H++[o]) (φ.put H.length (some (w.heap.size,cap))) N (w.alloc ob) H.length o):
  Rel (H++[o]) (φ.put H.length (some (w.heap.size,cap))) N (w.alloc ob)where
 obj id o' h:=by
  rcases pn h with⟨h1,h2⟩|⟨rfl,rfl⟩
  ·exact(hR.obj id o' h1).cM hR (au.new hR ob o cap) (aK.aR _ _ _ _ (Nat.ne_of_lt h2)) fun B c hp=>Below.heap_alloc w _ B ((hR.obj id o' h1).cj hp)
  ·exact hnew
 inj i j B c c' hi hj h1 h2:=by
  simp at hi hj
  by_cases e1:i=H.length<;>by_cases e2:j=H.length
  ·omega
  ·subst e1
   rw[aK.aD]at h1;cases h1
   rw[aK.aR _ _ _ _ e2]at h2
   exact absurd (hR.cj (by omega) h2) (by omega)
  ·subst e2
   rw[aK.aD]at h2;cases h2
   rw[aK.aR _ _ _ _ e1]at h1
   exact absurd (hR.cj (by omega) h1) (by omega)
  ·rw[aK.aR _ _ _ _ e1]at h1
   rw[aK.aR _ _ _ _ e2]at h2
   exact hR.inj i j B c c' (by omega) (by omega) h1 h2
 live a ha:=by
  obtain⟨v,hv⟩:=hR.live a ha
  exact⟨v,by rw[World.cell?_of_block (w:=w) (Below.heap_alloc w _ _ (World.block_lt_of_cell? w a hv))];exact hv⟩
 apart a id B c ha hid hp:=by
  have hl:=hR.th ha
  by_cases he:id=H.length
  ·subst he;rw[aK.aD]at hp;cases hp;omega
  ·rw[aK.aR _ _ _ _ he]at hp
   exact hR.apart a id B c ha (by simp at hid;omega) hp
theorem Rel.zg{H:aa}{φ:aK}{N:Addr→Prop}{w:World}(hR:Rel H φ N w)(e:TypeId)(k n:Nat)(cs:List AV)(vs:Array Value)(hk:0<k)(hn:cs.length=n* k)(hm:n≤maxLen)
  (hl:cs.length=vs.size) (h:∀j (h1:j<cs.length) (h2:j<vs.size),RA H φ N w (cs[j]) (vs[j])):
  Rel (H++[.box e k 0 n cs]) (φ.put H.length (some (w.heap.size,n))) N (w.alloc (.cells vs e)):=by
 refine hR.new _ _ _ (.box e k 0 n cs w.heap.size n vs hk hn (aK.aD _ _ _) (heap_alloc_new w _) (Nat.le_refl _) hm (by omega) fun j hj=>?_)
 exact⟨vs[j]'(by omega),by simp[show j<vs.size by omega],(h j hj (by omega)).since hR (au.new hR _ _ _)⟩
theorem Rel.zk{H:aa}{φ:aK}{N:Addr→Prop}{w:World}(hR:Rel H φ N w)(e:TypeId)(k:Nat)(es:List (List D))(vs:Array Value)(hk:0<k)(hes:∀c∈es,c.length=k)(hm:es.length≤maxLen)
  (hl:vs.size=es.length* k) (h:∀i (hi:i<es.length) j (hj:j<(es[i]).length),∃c,vs[i* k+j]?=some c∧RD N w ((es[i])[j]) c):
  Rel (H++[.arr e k 0 es]) (φ.put H.length (some (w.heap.size,es.length))) N (w.alloc (.cells vs e)):=by
 refine hR.new _ _ _ (.arr e k 0 es hk hes (.inr ⟨w.heap.size,es.length,vs,aK.aD _ _ _,heap_alloc_new w _,Nat.le_refl _,hm,hl,fun i hi j hj=>?_⟩))
 obtain⟨c,hc,hd⟩:=h i hi j hj
 exact⟨c,hc,hd.since hR (au.new hR (.cells vs e) (.arr e k 0 es) es.length)⟩
theorem au.set{H:aa}{φ:aK}{N:Addr→Prop}{w w':World}{id B c:Nat}{o o':ay}(ho:H[id]?=some o)(hp:φ id=some (B,c))
  (hk:o'.k=o.k) (hv:o'.ver=o.ver) (hl:o'.len=o.len) (hm:∀kk es,o= .mp kk es→∃es',o'= .mp kk es')
  (h1:w'.os=w.os) (h2:w'.tape=w.tape) (h3:w'.output=w.output) (h4:w'.heap.size=w.heap.size) (h5:∀k,k≠B→w'.heap[k]?=w.heap[k]?):
  au H φ N w (H.set id o') φ N w' where
 len:=by simp
 os:=h1
 tape:=h2
 output:=h3
 size:=by omega
 cM k hk' hn:=h5 k fun e=>hn id c (aj ho) (by rw[e];exact hp)
 own id' B' c' hid h _:=⟨id',c',by simpa using hid,h⟩
 mono _ h:=h
 bM id' o1 h:=by
  by_cases e:id'=id
  ·subst e
   rw[ho]at h;cases h
   exact⟨o',by simp[aj ho],hk,by omega,fun _=>⟨rfl,by omega⟩,fun kk es he=>⟨rfl,hm kk es he⟩⟩
  ·exact⟨o1,by rw[List.getElem?_set_ne (Ne.symm e)];exact h,rfl,Nat.le_refl _,fun _=>⟨rfl,Nat.le_refl _⟩,fun kk es he=>⟨rfl,es,he⟩⟩
 nU _ h:= .inl h
theorem Rel.set{H:aa}{φ:aK}{N:Addr→Prop}{w w':World}(hR:Rel H φ N w){id B c:Nat}{o o':ay}(ho:H[id]?=some o)(hp:φ id=some (B,c))
  (hS:au H φ N w (H.set id o') φ N w') (h5:∀k,k≠B→w'.heap[k]?=w.heap[k]?) (hnew:jD (H.set id o') φ N w' id o'):Rel (H.set id o') φ N w' where
 obj id' o1 h:=by
  by_cases e:id'=id
  ·subst e
   rw[List.getElem?_set_self (aj ho)]at h;cases h
   exact hnew
  ·rw[List.getElem?_set_ne (Ne.symm e)]at h
   exact(hR.obj id' o1 h).cM hR hS rfl fun B' c' hp'=>h5 B' fun eb=>e (hR.inj id' id B c' c (aj h) (aj ho) (by rw[←eb];exact hp') hp)
 inj i j B c c' hi hj h1 h2:=hR.inj i j B c c' (by simpa using hi) (by simpa using hj) h1 h2
 live a ha:=by
  obtain⟨v,hv⟩:=hR.live a ha
  refine⟨v,?_⟩
  rw[World.cell?_of_block (w:=w) (h5 a.block fun e=>hR.apart a id B c ha (aj ho) hp e)]
  exact hv
 apart a id' B' c' ha hid hp':=hR.apart a id' B' c' ha (by simpa using hid) hp'
def TI(P:Program)(t:TypeId):Option (Value×Nat×Nat):=(P.info? t).bind fun i=>i.zero.map fun z=>(z,i.size,i.bytes)
theorem TI.info{P:Program}{t:TypeId}{z:Value}{k b:Nat}(h:TI P t=some (z,k,b)):∃i,P.info? t=some i∧i.zero=some z∧i.size=k∧i.bytes=b:=by
 unfold TI at h
 obtain⟨i,hi,h⟩:=Option.bind_eq_some_iff.1 h
 obtain⟨z',hz,h⟩:=Option.map_eq_some_iff.1 h
 cases h
 exact⟨i,hi,hz,rfl,rfl⟩
theorem TI.sizeOf{P:Program}{t:TypeId}{z:Value}{k b:Nat}(h:TI P t=some (z,k,b))(w:World):(sizeOf t).run P w= .ok k w:=by
 obtain⟨i,hi,hz,rfl,rfl⟩:=TI.info h
 simp[Go.sizeOf,typeInfo,hi]
theorem TI.zero{P:Program}{t:TypeId}{z:Value}{k b:Nat}(h:TI P t=some (z,k,b))(w:World):(zeroValue t).run P w= .ok z w:=by
 obtain⟨i,hi,hz,rfl,rfl⟩:=TI.info h
 simp[Go.zeroValue,typeInfo,hi,hz]
def dr(P:Program)(t:TypeId):Option Bool:=(P.underlying t).map fun d=>match d with| .struct _| .array _ _=>true|_=>false
theorem dr.run{P:Program}{t:TypeId}{b:Bool}(h:dr P t=some b)(w:World):(isAgg t).run P w= .ok b w:=by
 unfold dr at h
 obtain⟨d,hd,h⟩:=Option.map_eq_some_iff.1 h
 subst h
 cases d<;>simp[isAgg,run_underlying hd]
theorem cW{k i j n:Nat}(hj:j<k)(hi:i<n):i* k+j<n* k:=by
 have:(i+1)* k≤n* k:=Nat.mul_le_mul_right k hi
 rw[Nat.add_mul]at this
 omega
def eM{α:Type}(l:List α)(j:Nat)(xs:List α):List α:=l.take j++xs++l.drop (j+xs.length)
theorem dk{α:Type}(l:List α)(j:Nat)(xs:List α)(h:j+xs.length≤l.length):(eM l j xs).length=l.length:=by
 simp[eM];omega
theorem gn{α:Type}(l:List α)(j:Nat)(xs:List α)(h:j+xs.length≤l.length)(t:Nat):
  (eM l j xs)[t]?=if t<j then l[t]? else if t<j+xs.length then xs[t-j]? else l[t]?:=by
 unfold eM
 by_cases h1:t<j
 ·rw[if_pos h1,List.append_assoc,List.getElem?_append_left (by simp;omega),List.getElem?_take,if_pos h1]
 ·rw[if_neg h1]
  by_cases h2:t<j+xs.length
  ·rw[if_pos h2,List.append_assoc,List.getElem?_append_right (by simp;omega),List.getElem?_append_left (by simp;omega)]
   congr 1
   simp;omega
  ·rw[if_neg h2,List.getElem?_append_right (by simp;omega),List.getElem?_drop]
   congr 1
   simp;omega
def ab(H:aa)(id ver i j n:Nat):Option (List AV):=
 match H[id]? with
 |some (.arr _ _ v es)=>if v=ver then(match es[i]? with|some c=>if j+n≤c.length then some (((c.drop j).take n).map .d)else none|none=>none)else none
 |some (.box _ k v m cs)=>if v=ver∧i* k+j+n≤cs.length then some ((cs.drop (i* k+j)).take n)else none
 |_=>none
theorem CF{H:aa}{φ:aK}{N:Addr→Prop}{w:World}(hR:Rel H φ N w){id ver i j n:Nat}{A:Option Addr}(hA:RA H φ N w (.ptr id ver i j) (.pointer A)){cs:List AV}
  (h:ab H id ver i j n=some cs):cs.length=n∧∃B off,A=some ⟨B,off,none⟩∧∀t (ht:t<cs.length),∃c,w.cell? ⟨B,off+t,none⟩=some c∧RA H φ N w (cs[t]) c:=by
 cases hA with
 |ptr _ _ _ _ _ o ho hv hp=>
 unfold ab at h
 rw[ho]at h
 cases o with
 |arr e k v es=>
  simp only at h
  split at h
  ·rename_i hvv
   split at h
   ·rename_i c hc
    split at h
    ·rename_i hjn
     cases h
     obtain⟨B,cp,hph,rfl⟩:=hp (by simp[ay.ver];omega)
     refine⟨by simp;omega,B,_,rfl,fun t ht=>?_⟩
     have hob:=hR.obj id _ ho
     cases hob with
     |arr _ _ _ _ hk hes hb=>
     have hi:i<es.length:=by
      rcases Nat.lt_or_ge i es.length with h'|h'
      ·exact h'
      ·simp[List.getElem?_eq_none h']at hc
     rcases hb with⟨h0,_⟩|⟨B',cap,cur,h1,h2,h3,h4,h5,h6⟩
     ·rw[h0]at hph;cases hph
     ·rw[h1]at hph;cases hph
      simp at ht
      have hce:es[i]=c:=by rw[List.getElem?_eq_getElem hi]at hc;exact Option.some.inj hc
      obtain⟨c',hc',hd'⟩:=h6 i hi (j+t) (by rw[hce];omega)
      refine⟨c',?_,?_⟩
      ·simp only[ay.k,World.cell?,h2]
       simpa[Nat.add_assoc]using hc'
      ·simp only[hce]at hd'
       simp only[List.getElem_map,List.getElem_take,List.getElem_drop]
       exact .d hd'
    ·cases h
   ·cases h
  ·cases h
 |box e k v m bs=>
  simp only at h
  split at h
  ·rename_i hvv
   cases h
   obtain⟨B,cp,hph,rfl⟩:=hp (by simp[ay.ver];omega)
   refine⟨by simp;omega,B,_,rfl,fun t ht=>?_⟩
   have hob:=hR.obj id _ ho
   cases hob with
   |box _ _ _ _ _ B' cap cur hk hn hp' hb hc hm hs hcell=>
   rw[hp']at hph;cases hph
   simp at ht
   obtain⟨c',hc',hd'⟩:=hcell (i* k+j+t) (by omega)
   refine⟨c',?_,?_⟩
   ·simp only[ay.k,World.cell?,hb]
    simpa using hc'
   ·simp only[List.getElem_take,List.getElem_drop]
    exact hd'
  ·cases h
 |mp kk es=>cases h
 |dead v=>cases h
 |iter m since seen=>cases h
 |lp r s=>cases h
def AV.toD?:AV→Option D
 | .d x=>some x
 |_=>none
def mV:List AV→Option (List D)
 |[]=>some []
 |x::xs=>match x.toD?,mV xs with
  |some y,some ys=>some (y::ys)
  |_,_=>none
theorem iQ:∀{xs:List AV} {ys:List D},mV xs=some ys→xs=ys.map .d
 |[],ys,h=>by cases h;rfl
 |x::xs,ys,h=>by
  unfold mV at h
  cases hx:x.toD? with
  |none=>simp[hx]at h
  |some y=>
   cases hxs:mV xs with
   |none=>simp[hx,hxs]at h
   |some zs=>
    simp[hx,hxs]at h
    subst h
    rw[iQ hxs]
    cases x<;>simp[AV.toD?]at hx
    subst hx
    rfl
def aq(H:aa)(id ver i j:Nat)(cs:List AV):Option aa:=
 match H[id]? with
 |some (.arr e k v es)=>if v=ver then(match es[i]?,mV cs with|some c,some ds=>if j+ds.length≤c.length then some (H.set id (.arr e k v (es.set i (eM c j ds))))else none|_,_=>none)else none
 |some (.box e k v m bs)=>if v=ver∧i* k+j+cs.length≤bs.length then some (H.set id (.box e k v m (eM bs (i* k+j) cs)))else none
 |_=>none
theorem jo(cur:Array Value)(off:Nat)(vs:List Value)(h:off+vs.length≤cur.size)(t:Nat):
  (cur.toList.take off++vs++cur.toList.drop (off+vs.length)).toArray[t]?=if t<off then cur[t]? else if t<off+vs.length then vs[t-off]? else cur[t]?:=by
 have:=gn cur.toList off vs (by simpa using h) t
 simpa[eM]using this
theorem BD{P:Program}{H H':aa}{φ:aK}{N:Addr→Prop}{w:World}(hR:Rel H φ N w){id ver i j:Nat}{A:Option Addr}(hA:RA H φ N w (.ptr id ver i j) (.pointer A)){cs:List AV}{vs:List Value}
  (hl:cs.length=vs.length) (hcs:∀t (h1:t<cs.length) (h2:t<vs.length),RA H φ N w (cs[t]) (vs[t])) (h1:∀v∈vs,v.oneCell'=true)
  (h:aq H id ver i j cs=some H'):∃a w',A=some a∧(storeCells a vs 0).run P w= .ok () w'∧Rel H' φ N w'∧au H φ N w H' φ N w':=by
 cases hA with
 |ptr _ _ _ _ _ o ho hv hp=>
 unfold aq at h
 rw[ho]at h
 cases o with
 |arr e k v es=>
  simp only at h
  split at h
  ·rename_i hvv
   split at h
   ·rename_i c ds hc hds
    split at h
    ·rename_i hjn
     cases h
     obtain⟨B,cp,hph,rfl⟩:=hp (by simp[ay.ver];omega)
     have hob:=hR.obj id _ ho
     cases hob with
     |arr _ _ _ _ hk hes hb=>
     have hi:i<es.length:=by
      rcases Nat.lt_or_ge i es.length with h'|h'
      ·exact h'
      ·simp[List.getElem?_eq_none h']at hc
     have hce:es[i]=c:=by rw[List.getElem?_eq_getElem hi]at hc;exact Option.some.inj hc
     have hck:c.length=k:=by rw[←hce];exact hes _ (List.getElem_mem hi)
     have hdl:ds.length=vs.length:=by rw[←hl,iQ hds];simp
     rcases hb with⟨h0,_⟩|⟨B',cap,cur,e1,e2,e3,e4,e5,e6⟩
     ·rw[h0]at hph;cases hph
     ·have hpB:=e1
      rw[e1]at hph;cases hph
      have hroom:i* k+j+vs.length≤cur.size:=by
       have:=Nat.mul_le_mul_right k (show i+1≤cp by omega)
       rw[Nat.add_mul]at this
       omega
      refine⟨_,_,rfl,run_storeCells_at (P:=P) B (i* k+j) e vs 0 cur w e2 (by omega) h1,?_⟩
      simp only[Nat.add_zero]
      generalize hnew:(cur.toList.take (i* k+j)++vs++cur.toList.drop (i* k+j+vs.length)).toArray=cur'
      have hS:au H φ N w (H.set id (.arr e k v (es.set i (eM c j ds)))) φ N (w.setRow B cur'):=
       au.set ho hpB rfl rfl (by simp[ay.len]) (fun kk es he=>by cases he) (by simp) (by simp) (by simp) (by simp) (fun k hk=>setRow_other w B k cur' hk)
      refine⟨hR.set ho hpB hS (fun k hk=>setRow_other w B k cur' hk) ?_,hS⟩
      refine .arr e k v _ hk ?_ (.inr ⟨B,cp,cur',hpB,setRow_heap w B cur cur' e (0,0) e2,by simpa using e3,e4,?_,?_⟩)
      ·intro x hx
       rcases List.mem_or_eq_of_mem_set hx with hx|rfl
       ·exact hes x hx
       ·rw[dk _ _ _ (by omega)];exact hck
      ·rw[←hnew,←e5];simp;omega
      ·intro i' hi' j' hj'
       have hget:=jo cur (i* k+j) vs hroom (i'* k+j')
       rw[hnew]at hget
       simp only[List.length_set]at hi'
       by_cases ei:i'=i
       ·subst ei
        simp only[List.getElem_set_self]at hj'⊢
        rw[dk _ _ _ (by omega)]at hj'
        have hsp:=gn c j ds hjn j'
        rw[List.getElem?_eq_getElem (by rw[dk _ _ _ (by omega)];exact hj')]at hsp
        by_cases a1:j'<j
        ·rw[if_pos a1,List.getElem?_eq_getElem hj']at hsp
         rw[if_pos (by omega)]at hget
         obtain⟨c',hc',hd'⟩:=e6 i' hi j' (by rw[hce];exact hj')
         refine⟨c',hget.trans hc',?_⟩
         rw[Option.some.inj hsp]
         simp only[hce]at hd'
         exact hd'.since hR hS
        ·rw[if_neg a1]at hsp
         rw[if_neg (by omega)]at hget
         by_cases a2:j'<j+ds.length
         ·rw[if_pos a2,List.getElem?_eq_getElem (show j'-j<ds.length by omega)]at hsp
          rw[if_pos (by omega)]at hget
          have hq:i'* k+j'-(i'* k+j)=j'-j:=by omega
          rw[hq,List.getElem?_eq_getElem (by omega)]at hget
          refine⟨_,hget,?_⟩
          rw[Option.some.inj hsp]
          have:=hcs (j'-j) (by omega) (by omega)
          have hcd:cs[j'-j]'(by omega)= .d (ds[j'-j]'(by omega)):=by
           have:=iQ hds
           simp[this]
          rw[hcd]at this
          cases this with
          |d hd=>exact hd.since hR hS
         ·rw[if_neg a2,List.getElem?_eq_getElem hj']at hsp
          rw[if_neg (by omega)]at hget
          obtain⟨c',hc',hd'⟩:=e6 i' hi j' (by rw[hce];exact hj')
          refine⟨c',hget.trans hc',?_⟩
          rw[Option.some.inj hsp]
          simp only[hce]at hd'
          exact hd'.since hR hS
       ·rw[List.getElem_set_ne (Ne.symm ei)]at hj'
        have hk':(es[i']).length=k:=hes _ (List.getElem_mem hi')
        obtain⟨c',hc',hd'⟩:=e6 i' hi' j' hj'
        have hout:i'* k+j'<i* k+j∨i* k+j+vs.length≤i'* k+j':=by
         rcases Nat.lt_or_ge i' i with hlt|hge
         ·have:=Nat.mul_le_mul_right k (show i'+1≤i by omega)
          rw[Nat.add_mul]at this
          omega
         ·have:=Nat.mul_le_mul_right k (show i+1≤i' by omega)
          rw[Nat.add_mul]at this
          omega
        refine⟨c',?_,?_⟩
        ·rw[hget]
         rcases hout with ho'|ho'
         ·rw[if_pos ho'];exact hc'
         ·rw[if_neg (by omega),if_neg (by omega)];exact hc'
        ·simp only[List.getElem_set_ne (Ne.symm ei)]
         exact hd'.since hR hS
    ·cases h
   ·cases h
  ·cases h
 |box e k v m bs=>
  simp only at h
  split at h
  ·rename_i hvv
   cases h
   obtain⟨B,cp,hph,rfl⟩:=hp (by simp[ay.ver];omega)
   have hob:=hR.obj id _ ho
   cases hob with
   |box _ _ _ _ _ B' cap cur hk hn hp' hb hc hm hs hcell=>
   have hpB:=hp'
   rw[hp']at hph;cases hph
   have hcap:=Nat.mul_le_mul_right k hc
   have hroom:i* k+j+vs.length≤cur.size:=by omega
   refine⟨_,_,rfl,run_storeCells_at (P:=P) B (i* k+j) e vs 0 cur w hb (by omega) h1,?_⟩
   simp only[Nat.add_zero]
   generalize hnew:(cur.toList.take (i* k+j)++vs++cur.toList.drop (i* k+j+vs.length)).toArray=cur'
   have hS:au H φ N w (H.set id (.box e k v m (eM bs (i* k+j) cs))) φ N (w.setRow B cur'):=
    au.set ho hpB rfl rfl rfl (fun kk es he=>by cases he) (by simp) (by simp) (by simp) (by simp) (fun k hk=>setRow_other w B k cur' hk)
   refine⟨hR.set ho hpB hS (fun k hk=>setRow_other w B k cur' hk) ?_,hS⟩
   refine .box e k v m _ B cp cur' hk (by rw[dk _ _ _ (by omega)];exact hn) hpB (setRow_heap w B cur cur' e (0,0) hb) hc hm (by rw[←hnew,←hs];simp;omega) ?_
   intro t ht
   have hget:=jo cur (i* k+j) vs hroom t
   rw[hnew]at hget
   have hsp:=gn bs (i* k+j) cs hvv.2 t
   rw[List.getElem?_eq_getElem ht]at hsp
   rw[dk _ _ _ (by omega)]at ht
   by_cases a1:t<i* k+j
   ·rw[if_pos a1,List.getElem?_eq_getElem ht]at hsp
    rw[if_pos a1]at hget
    obtain⟨c',hc',hd'⟩:=hcell t ht
    exact⟨c',hget.trans hc',by rw[Option.some.inj hsp];exact hd'.since hR hS⟩
   ·rw[if_neg a1]at hsp hget
    by_cases a2:t<i* k+j+cs.length
    ·rw[if_pos a2,List.getElem?_eq_getElem (by omega)]at hsp
     rw[if_pos (by omega),List.getElem?_eq_getElem (by omega)]at hget
     exact⟨_,hget,by rw[Option.some.inj hsp];exact(hcs _ (by omega) (by omega)).since hR hS⟩
    ·rw[if_neg a2,List.getElem?_eq_getElem ht]at hsp
     rw[if_neg (by omega)]at hget
     obtain⟨c',hc',hd'⟩:=hcell t ht
     exact⟨c',hget.trans hc',by rw[Option.some.inj hsp];exact hd'.since hR hS⟩
  ·cases h
 |mp kk es=>cases h
 |dead v=>cases h
 |iter m since seen=>cases h
 |lp r s=>cases h
def bT:Value→AV
 | .agg cs=>if cs.all Value.oneCell' then .agg (cs.toList.map fun c=> .d (.v c))else .top
 | .tuple _=> .top
 |x=> .d (.v x)
theorem dJ{H:aa}{φ:aK}{N:Addr→Prop}{w:World}(x:Value):RA H φ N w (bT x) x:=by
 unfold bT
 split
 ·split
  ·rename_i cs hc
   refine .agg _ _ (by simp) fun i h1 h2=>?_
   simp only[List.getElem_map,Array.getElem_toList]
   rw[Array.all_eq_true]at hc
   exact .d (.v _ (hc i h2))
  ·exact .top _
 ·exact .top _
 ·rename_i h1 h2
  refine .d (.v _ ?_)
  cases x<;>first|rfl|exact absurd rfl (h1 _)|exact absurd rfl (h2 _)
def ah(s:Nat→AV):Operand→AV
 | .tmp t=>s t
 | .const v=>bT v
 | .global _=> .top
 | .func f=> .fn f []
def bI(H:aa)(φ:aK)(N:Addr→Prop)(w:World)(s:Nat→AV)(a:Act):Prop:=∀t,RA H φ N w (s t) (a.tmps.getD t undef)
theorem ar{H:aa}{φ:aK}{N:Addr→Prop}{w:World}{s:Nat→AV}{a:Act}(h:bI H φ N w s a)(x:Operand):RA H φ N w (ah s x) (a.eval x):=by
 cases x with
 |tmp t=>exact h t
 |const v=>exact dJ v
 |global g=>exact .top _
 |func f=>exact .fn f [] #[] rfl (fun i h1=>by simp at h1)
theorem RA.closed{H:aa}{φ:aK}{N:Addr→Prop}{w:World}{x v:Value}(h:RA H φ N w (.d (.v x)) v):v=x:=by
 cases h with
 |d h=>cases h with|v=>rfl
def cellsOf:AV→Option (List AV)
 | .agg cs=>if cs.all AV.one then some cs else none
 | .top=>none
 | .a7 _=>none
 |x=>some [x]
theorem lv{H:aa}{φ:aK}{N:Addr→Prop}{w:World}{x:AV}{v:Value}(h:RA H φ N w x v){cs:List AV}(hc:cellsOf x=some cs):
  cs.length=v.cells.size∧(∀i (h1:i<cs.length) (h2:i<v.cells.size),RA H φ N w (cs[i]) (v.cells[i]))∧∀u∈v.cells.toList,u.oneCell'=true:=by
 have single:∀(y:AV) (u:Value),RA H φ N w y u→y.one=true→u.cells=#[u]→cellsOf y=some [y]→cs=[y]→x=y→v=u→
   cs.length=v.cells.size∧(∀i (h1:i<cs.length) (h2:i<v.cells.size),RA H φ N w (cs[i]) (v.cells[i]))∧∀u∈v.cells.toList,u.oneCell'=true:=by
  intro y u hy h1 hu _ e1 e2 e3
  subst e1 e2 e3
  refine⟨by simp[hu],fun i h1 h2=>?_,fun z hz=>?_⟩
  ·simp only[List.length_singleton]at h1
   have:i=0:=by omega
   subst this
   simp only[hu]
   exact hy
  ·simp only[hu]at hz
   simp at hz
   subst hz
   exact hy.one h1
 have one:x.one=true→cs=[x]→v.cells=#[v]→
   cs.length=v.cells.size∧(∀i (h1:i<cs.length) (h2:i<v.cells.size),RA H φ N w (cs[i]) (v.cells[i]))∧∀u∈v.cells.toList,u.oneCell'=true:=by
  intro h1 e hv
  subst e
  refine⟨by simp[hv],fun i h1 h2=>?_,fun z hz=>?_⟩
  ·simp only[List.length_singleton]at h1
   have:i=0:=by omega
   subst this
   simp only[hv]
   exact h
  ·simp only[hv]at hz
   simp at hz
   subst hz
   exact h.one h1
 have hv:∀u:Value,u.oneCell'=true→u.cells=#[u]:=by intro u hu;cases u<;>first|rfl|cases hu
 cases x with
 |top=>cases hc
 |a7 vs=>cases hc
 |agg xs=>
  simp only[cellsOf]at hc
  split at hc
  ·rename_i ha
   cases hc
   cases h with
   |agg _ vs hl hh=>
    refine⟨hl,hh,fun u hu=>?_⟩
    obtain⟨i,hi,rfl⟩:=List.mem_iff_getElem.1 hu
    rw[List.all_eq_true]at ha
    simp only[Value.cells,Array.length_toList]at hi
    simp only[Value.cells,Array.getElem_toList]
    exact(hh i (by omega) hi).one (ha _ (List.getElem_mem _))
  ·cases hc
 |d _=>cases hc;exact one rfl rfl (hv _ (h.one rfl))
 |di=>cases hc;exact one rfl rfl (hv _ (h.one rfl))
 |ptr _ _ _ _=>cases hc;exact one rfl rfl (hv _ (h.one rfl))
 |cc _=>cases hc;exact one rfl rfl (hv _ (h.one rfl))
 |sl _ _ _ _=>cases hc;exact one rfl rfl (hv _ (h.one rfl))
 |fn _ _=>cases hc;exact one rfl rfl (hv _ (h.one rfl))
 |mp _=>cases hc;exact one rfl rfl (hv _ (h.one rfl))
 |gq _=>cases hc;exact one rfl rfl (hv _ (h.one rfl))
def bW(P:Program)(o:Oper)(a:Act)(w:World)(H:aa)(φ:aK)(N:Addr→Prop)(r:AV)(H':aa):Prop:=
 ∃x w' φ' N',((execOp a.eval o).run P w= .ok (.value x) w'∨((execOp a.eval o).run P w= .ok .skip w'∧x=undef))∧
  Rel H' φ' N' w'∧au H φ N w H' φ' N' w'∧RA H' φ' N' w' r x
section
variable {P:Program} {o:Oper} {a:Act} {w:World} {H:aa} {φ:aK} {N:Addr→Prop} {s:Nat→AV}
theorem bW.same(hR:Rel H φ N w){r:AV}{x:Value}(hx:RA H φ N w r x)(h:(execOp a.eval o).run P w= .ok (.value x) w):bW P o a w H φ N r H:=
 ⟨x,w,φ,N,.inl h,hR,au.refl,hx⟩
theorem zG(hR:Rel H φ N w)(hT:bI H φ N w s a)(x:Operand)(ho:o.op= .move x∨o.op= .assign x):bW P o a w H φ N (ah s x) H:=by
 refine .same hR (ar hT x) ?_
 rcases ho with ho|ho<;>simp[execOp,ho]
theorem DI(hR:Rel H φ N w)(hT:bI H φ N w s a)(c x y:Operand)(ho:o.op= .pick c x y)(t:Bool)(hc:ah s c= .d (.v (.bool t))):
  bW P o a w H φ N (if t then ah s x else ah s y) H:=by
 have h:=ar hT c
 rw[hc]at h
 have hv:=h.closed
 refine bW.same (x:=if t then a.eval x else a.eval y) hR (by cases t<;>exact ar hT _) ?_
 cases t<;>simp[execOp,ho,asBool,hv]
def bE(cs:Array Value):List AV:=cs.toList.map fun c=> .d (.v c)
theorem Ch(hR:Rel H φ N w)(e:TypeId)(z:Value)(k b:Nat)(ho:o.op= .alloc e)(hi:TI P e=some (z,k,b))(hk:0<k)(hz:z.cells.size=k)(h1:z.cells.all Value.oneCell'=true):
  bW P o a w H φ N (.ptr H.length 0 0 0) (H++[.box e k 0 1 (bE z.cells)]):=by
 refine⟨.pointer (some ⟨w.heap.size,0,none⟩),w.alloc (.cells z.cells e),_,N,.inl ?_,hR.zg e k 1 (bE z.cells) z.cells hk (by simp[bE,hz]) (by decide) (by simp[bE]) (fun j h2 h3=>?_),au.new hR _ _ _,?_⟩
 ·simp only[execOp,ho,Instr.alloc,Sem.run_bind,TI.zero hi,Result.andThen_ok,newVar,newRow,newObj]
  rfl
 ·simp only[bE,List.getElem_map,Array.getElem_toList]
  rw[Array.all_eq_true]at h1
  exact .d (.v _ (h1 j h3))
 ·refine .ptr _ _ _ _ _ (.box e k 0 1 (bE z.cells)) (by simp) (Nat.le_refl _) fun _=>⟨w.heap.size,1,aK.aD _ _ _,by simp⟩
theorem vh(hR:Rel H φ N w)(e:TypeId)(z:Value)(k b:Nat)(ho:o.op= .alloc e)(hi:TI P e=some (z,k,b))(hk:0<k)(hz:z.cells.size=k)(h1:z.cells.all Value.oneCell'=true)(id:Nat)(e':TypeId)(hob:H[id]?=some (.arr e' k 0 [])):
  bW P o a w H φ N (.ptr id 1 0 0) (H.set id (.box e k 1 1 (bE z.cells))):=by
 have hid:=aj hob
 have hoth:∀j,j≠id→φ.put id (some (w.heap.size,1)) j=φ j:=fun j hj=>aK.aR _ _ _ _ hj
 have hS:au H φ N w (H.set id (.box e k 1 1 (bE z.cells))) (φ.put id (some (w.heap.size,1))) N (w.alloc (.cells z.cells e)):=by
  refine⟨by simp,rfl,rfl,rfl,by simp,fun j hj _=>Below.heap_alloc w _ j hj,fun j B c hj hp hB=>?_,fun _ h=>h,fun j o' hj=>?_,fun _ h=> .inl h⟩
  ·by_cases hji:j=id
   ·subst hji;rw[aK.aD]at hp;cases hp;omega
   ·rw[hoth j hji]at hp
    exact⟨j,c,by simpa using hj,hp⟩
  ·by_cases hji:j=id
   ·subst hji
    rw[hob]at hj;cases hj
    exact⟨.box e k 1 1 (bE z.cells),by simp[hid],rfl,Nat.le_succ _,fun h=>by simp[ay.ver]at h,fun kk es h=>by cases h⟩
   ·exact⟨o',by rw[List.getElem?_set_ne (Ne.symm hji)];exact hj,rfl,Nat.le_refl _,fun _=>⟨hoth j hji,Nat.le_refl _⟩,fun kk es h=>⟨hoth j hji,es,h⟩⟩
 refine⟨.pointer (some ⟨w.heap.size,0,none⟩),w.alloc (.cells z.cells e),_,N,.inl ?_,⟨fun j o' hj=>?_,fun i j B c c' hi hj hpi hpj=>?_,fun ad hd=>?_,fun ad j B c hd hj hp=>?_⟩,hS,?_⟩
 ·simp only[execOp,ho,Instr.alloc,Sem.run_bind,TI.zero hi,Result.andThen_ok,newVar,newRow,newObj]
  rfl
 ·by_cases hji:j=id
  ·subst hji
   rw[List.getElem?_set_self hid]at hj;cases hj
   refine .box e k 1 1 _ w.heap.size 1 z.cells hk (by simp[bE,hz]) (aK.aD _ _ _) (heap_alloc_new w _) (Nat.le_refl _) (by decide) (by omega) fun i hi=>?_
   have hi':i<z.cells.size:=by simpa[bE]using hi
   refine⟨z.cells[i],by simp[hi'],?_⟩
   simp only[bE,List.getElem_map,Array.getElem_toList]
   rw[Array.all_eq_true]at h1
   exact .d (.v _ (h1 i hi'))
  ·rw[List.getElem?_set_ne (Ne.symm hji)]at hj
   exact(hR.obj j o' hj).cM hR hS (hoth j hji) fun B c hp=>Below.heap_alloc w _ B ((hR.obj j o' hj).cj hp)
 ·simp only[List.length_set]at hi hj
  by_cases e1:i=id<;>by_cases e2:j=id
  ·omega
  ·subst e1
   rw[aK.aD]at hpi;cases hpi
   rw[hoth j e2]at hpj
   exact absurd (hR.cj hj hpj) (by omega)
  ·subst e2
   rw[aK.aD]at hpj;cases hpj
   rw[hoth i e1]at hpi
   exact absurd (hR.cj hi hpi) (by omega)
  ·rw[hoth i e1]at hpi
   rw[hoth j e2]at hpj
   exact hR.inj i j B c c' hi hj hpi hpj
 ·obtain⟨v,hv⟩:=hR.live ad hd
  exact⟨v,by rw[World.cell?_of_block (w:=w) (Below.heap_alloc w _ _ (World.block_lt_of_cell? w ad hv))];exact hv⟩
 ·simp only[List.length_set]at hj
  by_cases hji:j=id
  ·subst hji
   rw[aK.aD]at hp;cases hp
   have:=hR.th hd
   omega
  ·rw[hoth j hji]at hp
   exact hR.apart ad j B c hd hj hp
 ·exact .ptr _ _ _ _ _ (.box e k 1 1 (bE z.cells)) (by simp[hid]) (Nat.le_refl _) fun _=>⟨w.heap.size,1,aK.aD _ _ _,by simp⟩
theorem Fv(hR:Rel H φ N w)(hT:bI H φ N w s a)(e:TypeId)(x:Operand)(ho:o.op= .box e x)(cs:List AV)(hc:cellsOf (ah s x)=some cs)(hk:0<cs.length):
  bW P o a w H φ N (.ptr H.length 0 0 0) (H++[.box e cs.length 0 1 cs]):=by
 obtain⟨hl,hh,h1⟩:=lv (ar hT x) hc
 refine⟨.pointer (some ⟨w.heap.size,0,none⟩),w.alloc (.cells (a.eval x).cells e),_,N,.inl ?_,hR.zg e cs.length 1 cs (a.eval x).cells hk (by simp) (by decide) hl hh,au.new hR _ _ _,?_⟩
 ·simp only[execOp,ho,Instr.box,Sem.run_bind,newVar,newRow,newObj]
  rfl
 ·refine .ptr _ _ _ _ _ (.box e cs.length 0 1 cs) (by simp) (Nat.le_refl _) fun _=>⟨w.heap.size,1,aK.aD _ _ _,by simp⟩
def ea(H:aa)(n:Nat):AV→Option (List AV)
 | .ptr id ver i j=>ab H id ver i j n
 | .cc cs=>if n≤cs.length then some ((cs.take n).map .d)else none
 |_=>none
theorem add_plain(g o j:Nat):(⟨g,o,none⟩:Addr).add j=⟨g,o+j,none⟩:=by unfold Addr.add;split<;>simp_all
theorem lW(hR:Rel H φ N w){x:AV}{v:Value}(hx:RA H φ N w x v){n:Nat}{cs:List AV}(h:ea H n x=some cs):
  cs.length=n∧∃ad,v= .pointer (some ad)∧∀t (ht:t<cs.length),∃c,w.cell? (ad.add t)=some c∧RA H φ N w (cs[t]) c:=by
 cases x with
 |ptr id ver i j=>
  cases hx with
  |ptr _ _ _ _ A o ho hv hp=>
  obtain⟨hl,B,off,rfl,hh⟩:=CF hR (.ptr id ver i j A o ho hv hp) h
  exact⟨hl,_,rfl,fun t ht=>by rw[add_plain];exact hh t ht⟩
 |cc ds=>
  simp only[ea]at h
  split at h
  ·cases h
   cases hx with
   |cc _ ad c hc hd=>
   refine⟨by simp;omega,ad,rfl,fun t ht=>?_⟩
   simp at ht
   exact⟨c t,(hc t (by omega)).2,by simp only[List.getElem_map,List.getElem_take];exact .d (hd t (by omega))⟩
  ·cases h
 |_=>cases h
theorem vD(hR:Rel H φ N w)(hT:bI H φ N w s a)(t:TypeId)(x:Operand)(ho:o.op= .load t x)(hg:dr P t=some true)(z:Value)(k b:Nat)(hi:TI P t=some (z,k,b))
  (cs:List AV) (h:ea H k (ah s x)=some cs):bW P o a w H φ N (.agg cs) H:=by
 obtain⟨hl,ad,hv,hh⟩:=lW hR (ar hT x) h
 let f:Nat→Value:=fun t=>if ht:t<cs.length then(hh t ht).choose else undef
 have hf:∀t (ht:t<cs.length),w.cell? (ad.add t)=some (f t)∧RA H φ N w (cs[t]) (f t):=fun t ht=>by
  simp only[f,ht,dif_pos];exact(hh t ht).choose_spec
 have hrun:=run_loadCells (P:=P) w ad k f fun j hj=>(hf j (by omega)).1
 refine .same hR (x:= .agg ((List.range k).map f).toArray) (.agg _ _ (by simp[hl]) fun i h1 h2=>?_) ?_
 ·simp only[List.getElem_toArray,List.getElem_map,List.getElem_range]
  exact(hf i h1).2
 ·simp only[execOp,ho,hv,Instr.loadAt,Instr.sureAddr,Sem.run_bind,Sem.run_pure,Result.andThen_ok,loadVar,dr.run hg,TI.sizeOf hi,if_true,hrun]
theorem u3(hR:Rel H φ N w)(hT:bI H φ N w s a)(t:TypeId)(x:Operand)(ho:o.op= .load t x)(hg:dr P t=some false)
  (c:AV) (h:ea H 1 (ah s x)=some [c]):bW P o a w H φ N c H:=by
 obtain⟨hl,ad,hv,hh⟩:=lW hR (ar hT x) h
 obtain⟨u,hu,hr⟩:=hh 0 (by simp)
 refine .same hR hr ?_
 have hu':w.cell? ad=some u:=by simpa[Addr.add]using hu
 simp only[execOp,ho,hv,Instr.loadAt,Instr.sureAddr,Sem.run_bind,Sem.run_pure,Result.andThen_ok,loadVar,dr.run hg,Bool.false_eq_true,if_false,run_load,hu']
def pt(H:aa)(cs:List AV):AV→Option aa
 | .ptr id ver i j=>aq H id ver i j cs
 |_=>none
theorem Dy(hR:Rel H φ N w)(hT:bI H φ N w s a)(t:TypeId)(x y:Operand)(ho:o.op= .store t x y)(z:Value)(k b:Nat)(hi:TI P t=some (z,k,b))
  (cs:List AV) (hc:cellsOf (ah s y)=some cs) (hk:cs.length=k) (H':aa) (h:pt H cs (ah s x)=some H'):bW P o a w H φ N .top H':=by
 obtain⟨hl,hh,h1⟩:=lv (ar hT y) hc
 have hx:=ar hT x
 cases hp:ah s x with
 |ptr id ver i j=>
  rw[hp]at h hx
  generalize hv:a.eval x=v at hx
  cases hx with
  |ptr _ _ _ _ A ob hob hv' hq=>
  obtain⟨ad,w',rfl,hrun,hR',hS⟩:=BD (P:=P) hR (.ptr id ver i j A ob hob hv' hq) (cs:=cs) (vs:=(a.eval y).cells.toList) (by simpa using hl) (fun t h2 h3=>by
   simp only[Array.getElem_toList];exact hh t h2 (by simpa using h3)) h1 h
  refine⟨undef,w',φ,N,.inr ⟨?_,rfl⟩,hR',hS,.top _⟩
  simp only[execOp,ho,hv,Instr.storeAt,Instr.sureAddr,Sem.run_bind,Sem.run_pure,Result.andThen_ok,storeVar,TI.sizeOf hi]
  rw[if_neg (by simp;omega)]
  simp only[Result.andThen_ok,hrun]
 |_=>rw[hp]at h;cases h
def FO(P:Program)(t:TypeId)(f:Nat):Option (Nat×TypeId):=
 match P.underlying t with
 |some (.struct fields)=>(fields[f]?).map fun x=>(x.offset,x.type)
 |_=>none
theorem FO.get{t:TypeId}{f off:Nat}{ft:TypeId}(h:FO P t f=some (off,ft)):∃fields fd,P.underlying t=some (.struct fields)∧fields[f]?=some fd∧fd.offset=off∧fd.type=ft:=by
 unfold FO at h
 split at h
 ·rename_i fields hu
  obtain⟨fd,hfd,h⟩:=Option.map_eq_some_iff.1 h
  cases h
  exact⟨fields,fd,hu,hfd,rfl,rfl⟩
 ·cases h
def fQ(off:Nat):AV→Option AV
 | .ptr id ver i j=>some (.ptr id ver i (j+off))
 | .cc cs=>if off≤cs.length then some (.cc (cs.drop off))else none
 |_=>none
theorem add_add(ad:Addr)(m n:Nat):(ad.add m).add n=ad.add (m+n):=by
 unfold Addr.add
 by_cases hm:m=0
 ·subst hm;simp
 ·by_cases hn:n=0
  ·subst hn;simp
  ·simp[hm,hn,Nat.add_assoc]
theorem uL{off:Nat}{x y:AV}{v:Value}(hx:RA H φ N w x v)(h:fQ off x=some y)(hfresh:∀id ver i j,x= .ptr id ver i j→∃ad,v= .pointer (some ad)):
  ∃ad,v= .pointer (some ad)∧RA H φ N w y (.pointer (some (ad.add off))):=by
 cases x with
 |ptr id ver i j=>
  cases h
  obtain⟨ad,rfl⟩:=hfresh id ver i j rfl
  refine⟨ad,rfl,?_⟩
  cases hx with
  |ptr _ _ _ _ _ o ho hv hp=>
  refine .ptr _ _ _ _ _ o ho hv fun he=>?_
  obtain⟨B,c,h1,h2⟩:=hp he
  cases h2
  exact⟨B,c,h1,by rw[add_plain];simp[Nat.add_assoc]⟩
 |cc cs=>
  simp only[fQ]at h
  split at h
  ·cases h
   cases hx with
   |cc _ ad c hc hd=>
   refine⟨ad,rfl,.cc _ _ (fun t=>c (off+t)) (fun t ht=>?_) fun t ht=>?_⟩
   ·rw[add_add]
    simp at ht
    exact hc (off+t) (by omega)
   ·simp only[List.getElem_drop]
    simp at ht
    exact hd _ (by omega)
  ·cases h
 |_=>cases h
def fresh(H:aa):AV→Bool
 | .ptr id ver _ _=>match H[id]? with|some o=>o.ver==ver&&o.live|none=>false
 |_=>true
theorem pk{x:AV}{v:Value}(hx:RA H φ N w x v)(h:fresh H x=true):∀id ver i j,x= .ptr id ver i j→∃ad,v= .pointer (some ad):=by
 rintro id ver i j rfl
 cases hx with
 |ptr _ _ _ _ _ o ho hv hp=>
 simp only[fresh,ho,Bool.and_eq_true,beq_iff_eq]at h
 obtain⟨B,c,h1,rfl⟩:=hp h.1.symm
 exact⟨_,rfl⟩
theorem sm(hR:Rel H φ N w)(hT:bI H φ N w s a)(t:TypeId)(x:Operand)(f:Nat)(ho:o.op= .fieldAddr t x f)(off:Nat)(ft:TypeId)(hf:FO P t f=some (off,ft))
  (z:Value) (k b:Nat) (hi:TI P ft=some (z,k,b)) (hk:0<k) (y:AV) (h:fQ off (ah s x)=some y) (hfr:fresh H (ah s x)=true):bW P o a w H φ N y H:=by
 obtain⟨fields,fd,hu,hfd,rfl,rfl⟩:=FO.get hf
 obtain⟨ad,hv,hy⟩:=uL (ar hT x) h (pk (ar hT x) hfr)
 refine .same hR hy ?_
 simp only[execOp,ho,hv,Instr.fieldAt,Instr.sureAddr,Sem.run_bind,Sem.run_pure,Result.andThen_ok,run_underlying hu,hfd,fieldPlace,TI.sizeOf hi]
 rw[if_neg (by omega)]
 simp only[Sem.run_pure,Result.andThen_ok]
def SE(P:Program)(t:TypeId):Option TypeId:=match P.underlying t with|some (.slice e)=>some e|_=>none
theorem SE.get{t e:TypeId}(h:SE P t=some e):P.underlying t=some (.slice e):=by
 unfold SE at h
 split at h
 ·cases h;assumption
 ·cases h
def AE(P:Program)(t:TypeId):Option (Nat×TypeId):=match P.underlying t with|some (.array n e)=>some (n,e)|_=>none
theorem AE.get{t e:TypeId}{n:Nat}(h:AE P t=some (n,e)):P.underlying t=some (.array n e):=by
 unfold AE at h
 split at h
 ·cases h;assumption
 ·cases h
def gu(H:aa)(k:Nat)(i:Int):AV→Option AV
 | .d (.list _ es)=>if 0≤i then(es[i.toNat]?).bind fun e=>if e.length=k then some (.cc e)else none else none
 | .sl id ver off len=>if 0≤i∧i<len then(H[id]?).bind fun ob=>if ob.ver=ver∧ob.k=k∧ob.live=true then some (.ptr id ver (off+i.toNat) 0)else none else none
 |_=>none
theorem CV(hR:Rel H φ N w){k:Nat}{i:Int}{x y:AV}{v:Value}(hx:RA H φ N w x v)(h:gu H k i x=some y):
  ∃ad l c,v= .slice (some ad) l c∧0≤i∧i<l∧RA H φ N w y (.pointer (some (ad.add (i.toNat* k)))):=by
 cases x with
 |d x=>
  cases x with
  |v _=>cases h
  |list nn es=>
   simp only[gu]at h
   split at h
   ·rename_i h0
    obtain⟨e,he,h⟩:=Option.bind_eq_some_iff.1 h
    split at h
    ·rename_i hk
     cases h
     have hi:i.toNat<es.length:=by
      rcases Nat.lt_or_ge i.toNat es.length with h'|h'
      ·exact h'
      ·simp[List.getElem?_eq_none h']at he
     rw[List.getElem?_eq_getElem hi]at he
     cases hx with
     |d hd=>
     cases hd with
     |nil=>simp at hi
     |list _ _ ad cap k' c hc hk' hh hd=>
     have hkk:k'=k:=by rw[←hk,←Option.some.inj he];exact(hk' _ (List.getElem_mem hi)).symm
     subst hkk
     refine⟨ad,es.length,cap,rfl,h0,by omega,.cc e _ (fun t=>c i.toNat t) (fun t ht=>?_) fun t ht=>?_⟩
     ·rw[add_add]
      exact hh i.toNat t hi (by omega)
     ·have:=hd i.toNat hi t (by rw[Option.some.inj he];exact ht)
      simpa[Option.some.inj he]using this
    ·cases h
   ·cases h
 |sl id ver off len=>
  simp only[gu]at h
  split at h
  ·rename_i h0
   obtain⟨ob,hob,h⟩:=Option.bind_eq_some_iff.1 h
   split at h
   ·rename_i hv
    cases h
    cases hx with
    |sl _ _ _ _ A l m o' ho' hv' hp=>
    rw[hob]at ho';cases ho'
    obtain⟨rfl,h1,h2⟩:=hp hv.1.symm
    rcases h2 with⟨_,h3,_⟩|⟨B,c,h3,h4,rfl,rfl⟩
    ·omega
    ·refine⟨_,_,_,rfl,h0.1,h0.2,.ptr _ _ _ _ _ ob hob hv' fun _=>⟨B,c,h3,?_⟩⟩
     rw[add_plain,hv.2.1,Nat.add_mul]
     rfl
   ·cases h
  ·cases h
 |_=>cases h
theorem td(hR:Rel H φ N w)(hT:bI H φ N w s a)(t:TypeId)(x ix:Operand)(ho:o.op= .indexAddr t x ix)(e:TypeId)(ht:SE P t=some e)(z:Value)(k b:Nat)(hi:TI P e=some (z,k,b))
  (ik:IntKind) (i:Int) (hix:ah s ix= .d (.v (.int ik i))) (y:AV) (h:gu H k i (ah s x)=some y):bW P o a w H φ N y H:=by
 obtain⟨ad,l,c,hv,h0,h1,hy⟩:=CV hR (ar hT x) h
 have hj:=ar hT ix
 rw[hix]at hj
 have hjv:=hj.closed
 refine .same hR hy ?_
 simp only[execOp,ho,hv,hjv,Instr.indexAt,asIntOf,Sem.run_bind,Sem.run_pure,Result.andThen_ok,run_underlying (SE.get ht)]
 rw[if_pos ⟨h0,h1⟩]
 simp only[Sem.run_bind,Sem.run_pure,Result.andThen_ok,TI.sizeOf hi]
theorem ni(hR:Rel H φ N w)(hT:bI H φ N w s a)(t:TypeId)(x ix:Operand)(ho:o.op= .indexAddr t x ix)(n:Nat)(e:TypeId)(ht:AE P t=some (n,e))(z:Value)(k b:Nat)(hi:TI P e=some (z,k,b))
  (ik:IntKind) (i:Int) (hix:ah s ix= .d (.v (.int ik i))) (h0:0≤i) (h1:i<n) (y:AV) (h:fQ (i.toNat* k) (ah s x)=some y) (hfr:fresh H (ah s x)=true):bW P o a w H φ N y H:=by
 obtain⟨ad,hv,hy⟩:=uL (ar hT x) h (pk (ar hT x) hfr)
 have hj:=ar hT ix
 rw[hix]at hj
 have hjv:=hj.closed
 refine .same hR hy ?_
 simp only[execOp,ho,hv,hjv,Instr.indexAt,Instr.sureAddr,asIntOf,Sem.run_bind,Sem.run_pure,Result.andThen_ok,run_underlying (AE.get ht)]
 rw[if_pos ⟨h0,h1⟩]
 simp only[Sem.run_bind,Sem.run_pure,Result.andThen_ok,TI.sizeOf hi]
end
def fJ:List AV→Option (List Value)
 |[]=>some []
 | .d (.v x)::r=>if x.oneCell' then(fJ r).map (x::·)else none
 |_::_=>none
def closed:AV→Option Value
 | .d (.v x)=>some x
 | .agg cs=>(fJ cs).map fun l=> .agg l.toArray
 |_=>none
theorem mB{H:aa}{φ:aK}{N:Addr→Prop}{w:World}:∀{cs:List AV} {l:List Value} (vs:List Value),cs.length=vs.length→(∀i (h1:i<cs.length) (h2:i<vs.length),RA H φ N w (cs[i]) (vs[i]))→
  fJ cs=some l→vs=l
 |[],l,vs,hl,_,h=>by cases h;exact List.eq_nil_of_length_eq_zero hl.symm
 |c::cs,l,vs,hl,hh,h=>by
  cases vs with
  |nil=>cases hl
  |cons v vs=>
   cases c with
   |d x=>
    cases x with
    |v x=>
     simp only[fJ]at h
     split at h
     ·obtain⟨l',hl',rfl⟩:=Option.map_eq_some_iff.1 h
      have h0:=hh 0 (by simp) (by simp)
      simp only[List.getElem_cons_zero]at h0
      rw[h0.closed,mB vs (by simpa using hl) (fun i h1 h2=>by have:=hh (i+1) (by simpa using h1) (by simpa using h2);simpa using this) hl']
     ·cases h
    |list _ _=>cases h
   |_=>cases h
theorem bC{H:aa}{φ:aK}{N:Addr→Prop}{w:World}{x:AV}{v u:Value}(h:RA H φ N w x v)(hc:closed x=some u):v=u:=by
 cases x with
 |d x=>
  cases x with
  |v x=>cases hc;exact h.closed
  |list _ _=>cases hc
 |agg cs=>
  obtain⟨l,hl,rfl⟩:=Option.map_eq_some_iff.1 hc
  cases h with
  |agg _ vs hs hh=>
  rw[←mB vs.toList (by simpa using hs) (fun i h1 h2=>by simpa using hh i h1 (by simpa using h2)) hl]
 |_=>cases hc
section
variable {P:Program} {o:Oper} {a:Act} {w:World} {H:aa} {φ:aK} {N:Addr→Prop} {s:Nat→AV}
def bN(P:Program)(op:BinOp)(t:TypeId)(u v r:Value):Prop:=∀(x y:Operand) (w:World),(do eqGuard op t x y u v;Go.binOp op t u v:Sem Value).run P w= .ok r w
theorem GO(hR:Rel H φ N w)(hT:bI H φ N w s a)(op:BinOp)(t ty:TypeId)(x y:Operand)(ho:o.op= .binOp op t x y ty)(u v r:Value)(hx:closed (ah s x)=some u)(hy:closed (ah s y)=some v)
  (h:bN P op t u v r):bW P o a w H φ N (bT r) H:=by
 refine .same hR (dJ r) ?_
 rw[←bC (ar hT x) hx,←bC (ar hT y) hy]at h
 have:=h x y w
 simp only[execOp,ho]
 rw[Sem.run_bind,this]
 rfl
def cw(P:Program)(op:BinOp)(t:TypeId)(u v:Value)(K:Value→Prop):Prop:=
 match u,v with
 | .int k m,.int k' n=>
  match op with
  | .shl=>0≤n∧K (.int k (k.wrap (m* 2^(min n.toNat k.bits))))
  | .shr=>0≤n∧K (.int k (m.fdiv (2^(min n.toNat k.bits))))
  | .add=>k=k'∧K (.int k (k.wrap (m+n)))
  | .sub=>k=k'∧K (.int k (k.wrap (m-n)))
  | .mul=>k=k'∧K (.int k (k.wrap (m* n)))
  | .quo=>k=k'∧n≠0∧K (.int k (k.wrap (m.tdiv n)))
  | .rem=>k=k'∧n≠0∧K (.int k (m.tmod n))
  | .and=>k=k'∧K (.int k (k.wrap (BitVec.ofInt k.bits m&&&BitVec.ofInt k.bits n).toNat))
  | .or=>k=k'∧K (.int k (k.wrap (BitVec.ofInt k.bits m|||BitVec.ofInt k.bits n).toNat))
  | .xor=>k=k'∧K (.int k (k.wrap (BitVec.ofInt k.bits m^^^BitVec.ofInt k.bits n).toNat))
  | .andNot=>k=k'∧K (.int k (k.wrap (BitVec.ofInt k.bits m&&& ~~~BitVec.ofInt k.bits n).toNat))
  | .eql=>k=k'∧K (.bool (m==n))
  | .neq=>k=k'∧K (.bool (m !=n))
  | .lss=>k=k'∧K (.bool (decide (m<n)))
  | .leq=>k=k'∧K (.bool (decide (m≤n)))
  | .gtr=>k=k'∧K (.bool (decide (m>n)))
  | .geq=>k=k'∧K (.bool (decide (m≥n)))
 | .string m,.string n=>
  match op with
  | .eql=>K (.bool (m.toList==n.toList))
  | .neq=>K (.bool (!(m.toList==n.toList)))
  | .lss=>K (.bool (Op.bytesLess m.toList n.toList))
  | .leq=>K (.bool (Op.bytesLess m.toList n.toList||m.toList==n.toList))
  | .gtr=>K (.bool (!(Op.bytesLess m.toList n.toList||m.toList==n.toList)))
  | .geq=>K (.bool (!Op.bytesLess m.toList n.toList))
  |_=>∃r,bN P op t u v r∧K r
 |_,_=>∃r,bN P op t u v r∧K r
theorem EN{op:BinOp}{t:TypeId}{u v:Value}{K:Value→Prop}(h:cw P op t u v K):∃r,bN P op t u v r∧K r:=by
 unfold cw at h
 split at h
 ·rename_i k m k' n
  split at h<;>first
   |(obtain⟨h0,h⟩:=h
     refine⟨_,fun x y w=>?_,h⟩
     simp[eqGuard,Go.binOp,Op.shift,Int.not_lt.2 h0];done)
   |(obtain⟨rfl,h0,h⟩:=h
     refine⟨_,fun x y w=>?_,h⟩
     simp[eqGuard,Go.binOp,Op.intDiv,h0];done)
   |(obtain⟨rfl,h⟩:=h
     refine⟨_,fun x y w=>?_,h⟩
     simp[eqGuard,Go.binOp,Op.intArith,Op.intBits,Op.intCmp];done)
 ·split at h<;>first
   |exact h
   |(refine⟨_,fun x y w=>?_,h⟩
     simp[eqGuard,Go.binOp,Op.stringOp];done)
 ·exact h
def BO(op:UnOp)(u:Value)(K:Value→Prop):Prop:=
 match op,u with
 | .not,.bool b=>K (.bool !b)
 | .neg,.int k n=>K (.int k (k.wrap (0-n)))
 | .xor,.int k n=>K (.int k (k.wrap (BitVec.ofInt k.bits (if k.signed then -1 else k.max)^^^BitVec.ofInt k.bits n).toNat))
 |_,_=>False
theorem IL(hR:Rel H φ N w)(hT:bI H φ N w s a)(op:UnOp)(t:TypeId)(x:Operand)(ho:o.op= .unOp op t x)(u:Value)(hx:closed (ah s x)=some u)(K:Value→Prop)(h:BO op u K):
  ∃r,K r∧bW P o a w H φ N (bT r) H:=by
 have hv:=bC (ar hT x) hx
 unfold BO at h
 split at h<;>first
  |exact h.elim
  |(refine⟨_,h,.same hR (dJ _) ?_⟩
    simp[execOp,ho,hv,Op.unary,Op.intArith,Op.intBits])
def UK(P:Program)(t:TypeId):Option IntKind:=match P.underlying t with|some (.int k)=>some k|_=>none
theorem UK.get{t:TypeId}{k:IntKind}(h:UK P t=some k):P.underlying t=some (.int k):=by
 unfold UK at h
 split at h
 ·cases h;assumption
 ·cases h
theorem pJ(hR:Rel H φ N w)(hT:bI H φ N w s a)(src dst:TypeId)(x:Operand)(ho:o.op= .convert src dst x)(ks k':IntKind)(n:Int)(hx:closed (ah s x)=some (.int ks n))
  (h0:UK P src=some k') (k:IntKind) (h:UK P dst=some k):bW P o a w H φ N (.d (.v (.int k (k.wrap n)))) H:=by
 have hv:=bC (ar hT x) hx
 refine .same hR (.d (.v _ rfl)) ?_
 simp[execOp,ho,hv,Go.convert,run_underlying (UK.get h),run_underlying (UK.get h0),Conv.intToInt]
theorem wQ(hR:Rel H φ N w)(hT:bI H φ N w s a)(x:Operand)(i:Nat)(ho:o.op= .extract x i)(cs:List AV)(hx:ah s x= .a7 cs)(c:AV)(hc:cs[i]?=some c):bW P o a w H φ N c H:=by
 have h:=ar hT x
 rw[hx]at h
 generalize hv:a.eval x=v at h
 cases h with
 |a7 _ vs hl hh=>
 have hi:i<cs.length:=by
  rcases Nat.lt_or_ge i cs.length with h'|h'
  ·exact h'
  ·simp[List.getElem?_eq_none h']at hc
 rw[List.getElem?_eq_getElem hi]at hc
 refine .same hR (x:=vs[i]'(by omega)) ?_ ?_
 ·rw[←Option.some.inj hc];exact hh i hi (by omega)
 ·simp[execOp,ho,hv,Instr.extract,show i<vs.size by omega]
theorem ue(hR:Rel H φ N w)(hT:bI H φ N w s a)(f:FuncId)(caps:Array Operand)(ho:o.op= .makeFunc (.func f) #[] caps):bW P o a w H φ N (.fn f (caps.toList.map (ah s))) H:=by
 refine .same hR (x:= .func (.func f) #[] (caps.map a.eval)) (.fn _ _ _ (by simp) fun i h1 h2=>?_) ?_
 ·simp only[List.getElem_map,Array.getElem_map,Array.getElem_toList];exact ar hT _
 ·simp[execOp,ho,Instr.makeFunc]
def sv(H:aa):AV→Bool
 | .cc _=>true
 | .fn _ _=>true
 |x=>match x with| .ptr _ _ _ _=>fresh H x|_=>false
theorem vq(hR:Rel H φ N w)(hT:bI H φ N w s a)(x:Operand)(ho:o.op= .nilCheck x)(h:sv H (ah s x)=true):bW P o a w H φ N (ah s x) H:=by
 have hx:=ar hT x
 refine .same hR hx ?_
 cases e:ah s x with
 |cc cs=>
  rw[e]at hx
  generalize hv:a.eval x=v at hx
  cases hx
  simp[execOp,ho,hv]
 |fn f cs=>
  rw[e]at hx
  generalize hv:a.eval x=v at hx
  cases hx
  simp[execOp,ho,hv]
 |ptr id ver i j=>
  rw[e]at hx h
  obtain⟨ad,hv⟩:=pk hx h id ver i j rfl
  simp[execOp,ho,hv]
 |_=>rw[e]at h;cases h
def isIface(P:Program)(t:TypeId):Bool:=match P.underlying t with|some (.interface _)=>true|some _=>false|none=>true
theorem m8(hR:Rel H φ N w)(hT:bI H φ N w s a)(t:TypeId)(x:Operand)(ho:o.op= .makeInterface t x)(u:Value)(hx:closed (ah s x)=some u)(h:isIface P t=false):
  bW P o a w H φ N (.d (.v (.iface t u))) H:=by
 have hv:=bC (ar hT x) hx
 refine .same hR (.d (.v _ rfl)) ?_
 unfold isIface at h
 split at h
 ·cases h
 ·rename_i d hd hu
  have:∀ms,d≠ .interface ms:=by rintro ms rfl;exact hd ms rfl
  cases d<;>first
   |exact absurd rfl (this _)
   |simp[execOp,ho,hv,Instr.makeInterface,run_underlying hu]
 ·cases h
theorem s4(hR:Rel H φ N w)(hT:bI H φ N w s a)(t:TypeId)(x ix:Operand)(ho:o.op= .index t x ix)(hu:P.underlying t=some .string)(b:ByteArray)(hx:closed (ah s x)=some (.string b))
  (k:IntKind) (i:Int) (hi:closed (ah s ix)=some (.int k i)) (h0:0≤i) (u:UInt8) (h:b[i.toNat]?=some u):bW P o a w H φ N (.d (.v (.int .u8 u.toNat))) H:=by
 have hv:=bC (ar hT x) hx
 have hj:=bC (ar hT ix) hi
 refine .same hR (.d (.v _ rfl)) ?_
 simp[execOp,ho,hv,hj,Instr.index,asIntOf,run_underlying hu,h0,h]
def oX(H:aa):AV→Option Nat
 | .d (.list _ es)=>some es.length
 | .d (.v (.slice _ n _))=>some n
 | .di=>some 0
 | .sl id ver _ len=>match H[id]? with|some ob=>if ob.ver=ver then some len else none|none=>none
 |_=>none
theorem DW{x:AV}{v:Value}(hx:RA H φ N w x v){n:Nat}(h:oX H x=some n):∃A c,v= .slice A n c:=by
 cases x with
 |d x=>
  cases x with
  |v x=>
   have:=hx.closed
   subst this
   unfold oX at h
   split at h
   ·rename_i h';cases h'
   ·rename_i h';cases h';cases h;exact⟨_,_,rfl⟩
   ·rename_i h';cases h'
   ·rename_i h';cases h'
   ·cases h
  |list nn es=>
   cases h
   cases hx with
   |d hd=>
   cases hd with
   |nil=>exact⟨_,_,rfl⟩
   |list=>exact⟨_,_,rfl⟩
 |di=>cases h;cases hx;exact⟨_,_,rfl⟩
 |sl id ver off len=>
  cases hx with
  |sl _ _ _ _ A l m ob ho hv hp=>
  simp only[oX,ho]at h
  split at h
  ·rename_i he
   cases h
   obtain⟨rfl,_⟩:=hp he.symm
   exact⟨_,_,rfl⟩
  ·cases h
 |_=>cases h
theorem FT(hR:Rel H φ N w)(hT:bI H φ N w s a)(x:Operand)(t:TypeId)(ho:o.op= .call {callee:= .builtin .len,args:=#[x],argTypes:=#[t]})(e:TypeId)(ht:SE P t=some e)(n:Nat)
  (h:oX H (ah s x)=some n):bW P o a w H φ N (.d (.v (.int .i64 n))) H:=by
 obtain⟨A,c,hv⟩:=DW (ar hT x) h
 refine .same hR (.d (.v _ rfl)) ?_
 simp[execOp,ho,resolve,invoke,Go.builtin,Builtin.len_,hv,run_underlying (SE.get ht),goInt]
theorem wE(hR:Rel H φ N w)(hT:bI H φ N w s a)(x:Operand)(t:TypeId)(ho:o.op= .call {callee:= .builtin .len,args:=#[x],argTypes:=#[t]})(ht:P.underlying t=some .string)(b:ByteArray)
  (hx:closed (ah s x)=some (.string b)):bW P o a w H φ N (.d (.v (.int .i64 b.size))) H:=by
 have hv:=bC (ar hT x) hx
 refine .same hR (.d (.v _ rfl)) ?_
 simp[execOp,ho,resolve,invoke,Go.builtin,Builtin.len_,hv,run_underlying ht,goInt]
theorem u4(hR:Rel H φ N w)(hT:bI H φ N w s a)(t:TypeId)(x:Operand)(f:Nat)(ho:o.op= .field t x f)(off:Nat)(ft:TypeId)(hf:FO P t f=some (off,ft))(z:Value)(k b:Nat)(hi:TI P ft=some (z,k,b))
  (cs:List AV) (hx:ah s x= .agg cs) (g:Bool) (hg:dr P ft=some g) (y:AV) (hy:if g then off+k≤cs.length∧y= .agg ((cs.drop off).take k)else cs[off]?=some y):bW P o a w H φ N y H:=by
 obtain⟨fields,fd,hu,hfd,rfl,rfl⟩:=FO.get hf
 have h:=ar hT x
 rw[hx]at h
 generalize hv:a.eval x=v at h
 cases h with
 |agg _ vs hl hh=>
 cases g with
 |true=>
  simp only[if_true]at hy
  obtain⟨h1,rfl⟩:=hy
  refine .same hR (x:= .agg (vs.extract fd.offset (fd.offset+k))) (.agg _ _ (by simp;omega) fun i h2 h3=>?_) ?_
  ·simp only[List.getElem_take,List.getElem_drop,Array.getElem_extract]
   simp at h2
   exact hh _ (by omega) (by omega)
  ·simp[execOp,ho,hv,Instr.field,run_underlying hu,hfd,asAgg,part,dr.run hg,TI.sizeOf hi]
 |false=>
  simp only[Bool.false_eq_true,if_false]at hy
  have hi':fd.offset<cs.length:=by
   rcases Nat.lt_or_ge fd.offset cs.length with h'|h'
   ·exact h'
   ·simp[List.getElem?_eq_none h']at hy
  rw[List.getElem?_eq_getElem hi']at hy
  refine .same hR (x:=vs[fd.offset]'(by omega)) ?_ ?_
  ·rw[←Option.some.inj hy];exact hh _ hi' (by omega)
  ·simp[execOp,ho,hv,Instr.field,run_underlying hu,hfd,asAgg,part,dr.run hg,show fd.offset<vs.size by omega]
end
def jy(H:aa):AV→Option (List (List D))
 | .d (.list _ es)=>some es
 | .d (.v (.slice none 0 0))=>some []
 | .di=>some []
 | .sl id ver off len=>match H[id]? with|some (.arr _ _ v es)=>if v=ver then some ((es.drop off).take len)else none|_=>none
 |_=>none
structure Src (N:Addr→Prop) (w:World) (k:Nat) (es:List (List D)) (A:Option Addr) (news:List Value):Prop where
 len:news.length=es.length* k
 nil:A=none→es=[]
 cells:∀ad,A=some ad→∀j u,news[j]?=some u→w.cell? (ad.add j)=some u
 rel:∀i (hi:i<es.length) j (hj:j<(es[i]).length),∃u,news[i* k+j]?=some u∧RD N w ((es[i])[j]) u
 one:∀u∈news,u.oneCell'=true
theorem Src.empty(N:Addr→Prop)(w:World)(k:Nat)(A:Option Addr):Src N w k [] A []:=
 ⟨by simp,fun _=>rfl,fun _ _ j u h=>by simp at h,fun i hi=>by simp at hi,fun u h=>by simp at h⟩
theorem y8{H:aa}{φ:aK}{N:Addr→Prop}{w:World}(hR:Rel H φ N w){x:AV}{v:Value}(hx:RA H φ N w x v){k:Nat}{es:List (List D)}(h:jy H x=some es)(hk:∀e∈es,e.length=k):
  ∃A c news,v= .slice A es.length c∧Src N w k es A news:=by
 cases x with
 |d x=>
  cases x with
  |v x=>
   have:=hx.closed
   subst this
   unfold jy at h
   split at h
   ·rename_i h';cases h'
   ·rename_i h';cases h';cases h;exact⟨none,0,[],rfl,Src.empty N w k none⟩
   ·rename_i h';cases h'
   ·rename_i h';cases h'
   ·cases h
  |list nn es'=>
   simp only[jy,Option.some.injEq]at h
   subst h
   cases hx with
   |d hd=>
   cases hd with
   |nil A c=>exact⟨A,c,[],rfl,Src.empty N w k A⟩
   |list _ _ ad cap k' c hc hk' hh hd=>
   by_cases h0:es'=[]
   ·subst h0;exact⟨some ad,cap,[],rfl,Src.empty N w k _⟩
   have hkk:k'=k:=by
    cases es' with
    |nil=>exact absurd rfl h0
    |cons e r=>rw[←hk' e (by simp),hk e (by simp)]
   subst hkk
   have hlen:∀i (hi:i<es'.length),(es'[i]).length=k':=fun i hi=>hk' _ (List.getElem_mem hi)
   have hget:∀p,p<es'.length* k'→((List.range (es'.length* k')).map fun p=>c (p/k') (p%k'))[p]?=some (c (p/k') (p%k')):=fun p hp=>by simp[hp]
   have hdm:∀i j,j<k'→(i* k'+j)/k'=i∧(i* k'+j)%k'=j:=by
    intro i j hj
    constructor
    ·rw[Nat.mul_comm,Nat.mul_add_div (by omega),Nat.div_eq_of_lt hj];omega
    ·rw[Nat.mul_comm,Nat.mul_add_mod,Nat.mod_eq_of_lt hj]
   refine⟨some ad,cap,(List.range (es'.length* k')).map fun p=>c (p/k') (p%k'),rfl,by simp,fun e=>(by cases e),fun ad' e j u hu=>?_,fun i hi j hj=>?_,fun u hu=>?_⟩
   ·cases e
    have hj:j<es'.length* k':=by
     rcases Nat.lt_or_ge j (es'.length* k')with h'|h'
     ·exact h'
     ·rw[List.getElem?_eq_none (by simpa using h')]at hu;cases hu
    rw[hget j hj]at hu
    cases hu
    have hk0:0<k':=by rcases Nat.eq_zero_or_pos k' with h|h;(subst h;simp at hj);exact h
    have hdi:j/k'<es'.length:=(Nat.div_lt_iff_lt_mul hk0).2 hj
    have:=(hh (j/k') (j%k') hdi (Nat.mod_lt _ hk0)).2
    rwa[Nat.mul_comm,Nat.div_add_mod]at this
   ·have hj':j<k':=by rw[←hlen i hi];exact hj
    refine⟨_,hget _ (cW hj' hi),?_⟩
    rw[(hdm i j hj').1,(hdm i j hj').2]
    exact hd i hi j hj
   ·obtain⟨p,hp,rfl⟩:=List.mem_map.1 hu
    simp at hp
    have hk0:0<k':=by rcases Nat.eq_zero_or_pos k' with h|h;(subst h;simp at hp);exact h
    have hdi:p/k'<es'.length:=(Nat.div_lt_iff_lt_mul hk0).2 hp
    exact(hd (p/k') hdi (p%k') (by rw[hlen _ hdi];exact Nat.mod_lt _ hk0)).one
 |di=>cases h;cases hx with|di A=>exact⟨A,0,[],rfl,Src.empty N w k A⟩
 |sl id ver off len=>
  cases hx with
  |sl _ _ _ _ A l m ob ho hv hp=>
  simp only[jy,ho]at h
  cases ob with
  |arr e k' v es'=>
   simp only at h
   split at h
   ·rename_i hvv
    cases h
    obtain⟨rfl,h1,h2⟩:=hp (by simp[ay.ver];omega)
    simp only[ay.len]at h1
    have hob:=hR.obj id _ ho
    cases hob with
    |arr _ _ _ _ hk0 hes hb=>
    have hel:((es'.drop off).take l).length=l:=by simp;omega
    by_cases h0:l=0
    ·subst h0;exact⟨A,m,[],by simp,by simpa using Src.empty N w k A⟩
    have hkk:k'=k:=by
     have hi:off<es'.length:=by omega
     have hmem:es'[off]∈(es'.drop off).take l:=by
      rw[List.mem_iff_getElem]
      exact⟨0,by simp;omega,by simp⟩
     rw[←hes _ (List.getElem_mem hi),hk _ hmem]
    subst hkk
    rcases h2 with⟨_,h3,_⟩|⟨B,cp,h3,h4,rfl,rfl⟩
    ·omega
    rcases hb with⟨g0,_⟩|⟨B',cap,cur,g1,g2,g3,g4,g5,g6⟩
    ·rw[g0]at h3;cases h3
    rw[g1]at h3;cases h3
    have hb':off* k'+l* k'≤cur.size:=by
     have:=Nat.mul_le_mul_right k' h4
     rw[Nat.add_mul]at this
     omega
    refine⟨_,_,(cur.toList.drop (off* k')).take (l* k'),by rw[hel],⟨by rw[hel];simp;omega,fun e=>(by cases e),fun ad e j u hu=>?_,fun i hi j hj=>?_,fun u hu=>?_⟩⟩
    ·cases e
     rw[add_plain]
     simp only[ay.k,World.cell?,g2]
     rw[List.getElem?_take]at hu
     split at hu
     ·rw[List.getElem?_drop]at hu
      simpa using hu
     ·cases hu
    ·rw[hel]at hi
     simp only[List.getElem_take,List.getElem_drop]at hj⊢
     obtain⟨c,hc,hd⟩:=g6 (off+i) (by omega) j hj
     have hjk:j<k':=by rw[←hes _ (List.getElem_mem (show off+i<es'.length by omega))];exact hj
     refine⟨c,?_,hd⟩
     rw[List.getElem?_take,if_pos (cW hjk hi),List.getElem?_drop]
     rw[Nat.add_mul]at hc
     simpa[Nat.add_assoc]using hc
    ·obtain⟨p,hp',rfl⟩:=List.mem_iff_getElem.1 hu
     simp at hp'
     simp only[List.getElem_take,List.getElem_drop,Array.getElem_toList]
     have hdi:p/k'<l:=(Nat.div_lt_iff_lt_mul hk0).2 (by omega)
     have hlen:=hes _ (List.getElem_mem (show off+p/k'<es'.length by omega))
     obtain⟨c,hc,hd⟩:=g6 (off+p/k') (by omega) (p%k') (by rw[hlen];exact Nat.mod_lt _ hk0)
     have hpp:(off+p/k')* k'+p%k'=off* k'+p:=by
      rw[Nat.add_mul,Nat.add_assoc]
      congr 1
      rw[Nat.mul_comm];exact Nat.div_add_mod p k'
     rw[hpp,Array.getElem?_eq_getElem (by omega)]at hc
     rw[Option.some.inj hc]
     exact hd.one
   ·cases h
  |_=>cases h
 |_=>cases h
theorem au.grow{H:aa}{φ:aK}{N:Addr→Prop}{w w':World}{id:Nat}{e:TypeId}{k ver:Nat}{es es':List (List D)}(ho:H[id]?=some (.arr e k ver es))(row:Option Nat)(p:Option (Nat×Nat))
  (hrow:∀B,row=some B→∃c,φ id=some (B,c)) (hg:w.grownBy w' row) (hp:∀B c,p=some (B,c)→row=some B∨w.heap.size≤B):
  au H φ N w (H.set id (.arr e k (ver+1) es')) (φ.put id p) N w' where
 len:=by simp
 os:=hg.os
 tape:=hg.tape
 output:=hg.output
 size:=hg.size
 cM k' hk' hn:=hg.block k' hk' fun e'=>by
  obtain⟨c,hc⟩:=hrow k' e'.symm
  exact hn id c (aj ho) hc
 own id' B c hid h hB:=by
  by_cases e1:id'=id
  ·subst e1
   rw[aK.aD]at h
   rcases hp B c h with h'|h'
   ·obtain⟨c',hc'⟩:=hrow B h'
    exact⟨id',c',by simpa using hid,hc'⟩
   ·omega
  ·rw[aK.aR _ _ _ _ e1]at h
   exact⟨id',c,by simpa using hid,h⟩
 mono _ h:=h
 bM id' o1 h:=by
  by_cases e1:id'=id
  ·subst e1
   rw[ho]at h;cases h
   exact⟨_,List.getElem?_set_self (aj ho),rfl,by simp[ay.ver],fun e2=>by simp[ay.ver]at e2,fun kk es he=>by cases he⟩
  ·exact⟨o1,by rw[List.getElem?_set_ne (Ne.symm e1)];exact h,rfl,Nat.le_refl _,fun _=>⟨aK.aR _ _ _ _ e1,Nat.le_refl _⟩,fun kk es he=>⟨aK.aR _ _ _ _ e1,es,he⟩⟩
 nU _ h:= .inl h
theorem Rel.grow{H:aa}{φ:aK}{N:Addr→Prop}{w w':World}(hR:Rel H φ N w){id:Nat}{e:TypeId}{k ver:Nat}{es es':List (List D)}(ho:H[id]?=some (.arr e k ver es))(row:Option Nat)(p:Option (Nat×Nat))
  (hrow:∀B,row=some B→∃c,φ id=some (B,c)) (hg:w.grownBy w' row) (hp:∀B c,p=some (B,c)→row=some B∨w.heap.size≤B)
  (hnew:jD (H.set id (.arr e k (ver+1) es')) (φ.put id p) N w' id (.arr e k (ver+1) es')):Rel (H.set id (.arr e k (ver+1) es')) (φ.put id p) N w' where
 obj id' o1 h:=by
  by_cases e1:id'=id
  ·subst e1
   rw[List.getElem?_set_self (aj ho)]at h;cases h
   exact hnew
  ·rw[List.getElem?_set_ne (Ne.symm e1)]at h
   refine(hR.obj id' o1 h).cM hR (au.grow ho row p hrow hg hp) (aK.aR _ _ _ _ e1) fun B c hb=>hg.block B ((hR.obj id' o1 h).cj hb) fun e2=>?_
   obtain⟨c',hc'⟩:=hrow B e2.symm
   exact e1 (hR.inj id' id B c c' (aj h) (aj ho) hb hc')
 inj i j B c c' hi hj h1 h2:=by
  simp at hi hj
  have aux:∀i B c,i<H.length→i≠id→φ i=some (B,c)→∀c',p=some (B,c')→False:=by
   intro i B c hi hne hb c' hc'
   rcases hp B c' hc' with h'|h'
   ·obtain⟨c2,hc2⟩:=hrow B h'
    exact hne (hR.inj i id B c c2 hi (aj ho) hb hc2)
   ·exact absurd (hR.cj hi hb) (by omega)
  by_cases e1:i=id<;>by_cases e2:j=id
  ·omega
  ·subst e1
   rw[aK.aD]at h1
   rw[aK.aR _ _ _ _ e2]at h2
   exact(aux j B c' hj e2 h2 c h1).elim
  ·subst e2
   rw[aK.aD]at h2
   rw[aK.aR _ _ _ _ e1]at h1
   exact(aux i B c hi e1 h1 c' h2).elim
  ·rw[aK.aR _ _ _ _ e1]at h1
   rw[aK.aR _ _ _ _ e2]at h2
   exact hR.inj i j B c c' hi hj h1 h2
 live a ha:=by
  obtain⟨v,hv⟩:=hR.live a ha
  refine⟨v,?_⟩
  rw[World.cell?_of_block (w:=w) (hg.block a.block (World.block_lt_of_cell? w a hv) fun e2=>?_)]
  ·exact hv
  ·obtain⟨c',hc'⟩:=hrow a.block e2.symm
   exact hR.apart a id _ c' ha (aj ho) hc' rfl
 apart a id' B c ha hid hb:=by
  by_cases e1:id'=id
  ·subst e1
   rw[aK.aD]at hb
   rcases hp B c hb with h'|h'
   ·obtain⟨c',hc'⟩:=hrow B h'
    exact hR.apart a id' B c' ha (aj ho) hc'
   ·have:=hR.th ha
    omega
  ·rw[aK.aR _ _ _ _ e1]at hb
   exact hR.apart a id' B c ha (by simpa using hid) hb
section
variable {P:Program} {o:Oper} {a:Act} {w:World} {H:aa} {φ:aK} {N:Addr→Prop} {s:Nat→AV}
theorem nS(t ty e:TypeId)(i:TypeInfo)(ht:P.underlying t=some (.slice e))(hi:P.info? e=some i)(A:Option Addr)(n cap c:Nat)(hn:n≤cap)(w:World):
  (Builtin.append_ #[t,t] ty #[.slice A n cap,.slice none 0 c]).run P w= .ok (.slice A n cap) w:=by
 cases A<;>simp[Builtin.append_,run_underlying ht,sizeOf,typeInfo,hi,Builtin.lenOf,Builtin.firstCells,hn,storeCells]
theorem n8(t ty e:TypeId)(i:TypeInfo)(ht:P.underlying t=some (.slice e))(hi:P.info? e=some i)(A:Option Addr)(n cap c:Nat)(hn:n≤cap)(B:Addr)(w:World):
  (Builtin.append_ #[t,t] ty #[.slice A n cap,.slice (some B) 0 c]).run P w= .ok (.slice A n cap) w:=by
 cases A<;>simp[Builtin.append_,run_underlying ht,sizeOf,typeInfo,hi,Builtin.lenOf,Builtin.firstCells,hn,storeCells,loadCells,loadCellsFrom]
theorem Di{k:Nat}{es news:List (List D)}{cs vs:List Value}(hl:cs.length=es.length* k)(hes:∀e∈es,e.length=k)(hnews:∀e∈news,e.length=k)(R:D→Value→Prop)
  (h1:∀i (hi:i<es.length) j (hj:j<(es[i]).length),∃u,cs[i* k+j]?=some u∧R ((es[i])[j]) u)
  (h2:∀i (hi:i<news.length) j (hj:j<(news[i]).length),∃u,vs[i* k+j]?=some u∧R ((news[i])[j]) u):
  ∀i (hi:i<(es++news).length) j (hj:j<((es++news)[i]).length),∃u,(cs++vs)[i* k+j]?=some u∧R (((es++news)[i])[j]) u:=by
 intro i hi j hj
 rcases Nat.lt_or_ge i es.length with h|h
 ·have hj':j<(es[i]).length:=by rw[List.getElem_append_left h]at hj;exact hj
  obtain⟨u,hu,hr⟩:=h1 i h j hj'
  refine⟨u,?_,?_⟩
  ·rw[List.getElem?_append_left (by rw[hl];exact cW (by rw[←hes _ (List.getElem_mem h)];exact hj') h)];exact hu
  ·simpa only[List.getElem_append_left h]using hr
 ·have hi':i-es.length<news.length:=by simp at hi;omega
  have hj':j<(news[i-es.length]).length:=by rw[List.getElem_append_right h]at hj;exact hj
  obtain⟨u,hu,hr⟩:=h2 _ hi' j hj'
  have hm:(i-es.length)* k+es.length* k=i* k:=by rw[←Nat.add_mul];congr 1;omega
  refine⟨u,?_,?_⟩
  ·rw[List.getElem?_append_right (by rw[hl];omega),hl]
   have:i* k+j-es.length* k=(i-es.length)* k+j:=by omega
   rw[this];exact hu
  ·simpa only[List.getElem_append_right h]using hr
structure F9 (P:Program) (w:World) (t t' ty e:TypeId) (i:TypeInfo) (z:Value) (n:Nat) (nv:List Value) (yv:Value):Prop where
 len:nv.length=n* i.size
 one:∀u∈nv,u.oneCell'=true
 zero:n=0→∀(A:Option Addr) (m cap:Nat),m≤cap→(Builtin.append_ #[t,t'] ty #[.slice A m cap,yv]).run P w= .ok (.slice A m cap) w
 nil:0<n→(n:Int)≤9223372036854775807→n* i.bytes≤281474976710656→(Builtin.append_ #[t,t'] ty #[.slice none 0 0,yv]).run P w=
   .ok (.slice (some ⟨w.heap.size,0,none⟩) n (grownCap w n 0 e)) (w.drew.alloc (.cells (nv.toArray++Builtin.zeroCells z.cells (grownCap w n 0 e-n)) e))
 room:0<n→∀(B m cap:Nat) (cur:Array Value),w.heap[B]?=some (.cells cur e (0,0))→m+n≤cap→m* i.size+nv.length≤cur.size→(Builtin.append_ #[t,t'] ty #[.slice (some ⟨B,0,none⟩) m cap,yv]).run P w=
   .ok (.slice (some ⟨B,0,none⟩) (m+n) cap) (w.setRow B (cur.toList.take (m* i.size)++nv++cur.toList.drop (m* i.size+nv.length)).toArray)
 grow:0<n→∀(b:Addr) (m cap:Nat) (olds:List Value),olds.length=m* i.size→(∀j v,olds[j]?=some v→w.cell? (b.add j)=some v)→cap<m+n→((m+n:Nat):Int)≤9223372036854775807→Builtin.nextslicecap (m+n) cap* i.bytes≤281474976710656→
   (Builtin.append_ #[t,t'] ty #[.slice (some b) m cap,yv]).run P w=
   .ok (.slice (some ⟨w.heap.size,0,none⟩) (m+n) (grownCap w (m+n) cap e)) (w.drew.alloc (.cells (olds.toArray++nv.toArray++Builtin.zeroCells z.cells (grownCap w (m+n) cap e-(m+n))) e))
theorem px(hR:Rel H φ N w)(ty t t' e:TypeId)(i:TypeInfo)(z:Value)(hz:z.cells.size=i.size)(id ver:Nat)(es news:List (List D))(xv yv:Value)(nv:List Value)
  (hAR:F9 P w t t' ty e i z news.length nv yv) (hrel0:∀j (hj:j<news.length) t (ht:t<(news[j]).length),∃u,nv[j* i.size+t]?=some u∧RD N w ((news[j])[t]) u)
  (hxa:RA H φ N w (.sl id ver 0 es.length) xv) (hob:H[id]?=some (.arr e i.size ver es)) (hk:∀c∈news,c.length=i.size) (hb:(es.length+news.length)* i.bytes≤140737488355328) (hm:es.length+news.length≤9223372036854775807):
  ∃v' w' φ',(Builtin.append_ #[t,t'] ty #[xv,yv]).run P w= .ok v' w'∧Rel (H.set id (.arr e i.size (ver+1) (es++news))) φ' N w'∧au H φ N w (H.set id (.arr e i.size (ver+1) (es++news))) φ' N w'∧
   RA (H.set id (.arr e i.size (ver+1) (es++news))) φ' N w' (.sl id (ver+1) 0 (es.length+news.length)) v':=by
 cases hxa with
 |sl _ _ _ _ A' l m ob ho' hv' hp=>
 rw[hob]at ho';cases ho'
 obtain⟨rfl,_,h2⟩:=hp rfl
 have hobj:=hR.obj id _ hob
 cases hobj with
 |arr _ _ _ _ hk0 hes hbl=>
 have hall:∀c∈es++news,c.length=i.size:=fun c hc=>by rcases List.mem_append.1 hc with h|h;exact hes c h;exact hk c h
 by_cases hn0:news.length=0
 ·
  have hnews:news=[]:=List.eq_nil_of_length_eq_zero hn0
  subst hnews
  have hrun:(Builtin.append_ #[t,t'] ty #[.slice A' es.length m,yv]).run P w= .ok (.slice A' es.length m) w:=hAR.zero rfl _ _ _ (by
   rcases h2 with⟨_,h3,_,h5⟩|⟨B,cp,_,h4,_,h5⟩<;>omega)
  have hS:au H φ N w (H.set id (.arr e i.size (ver+1) (es++[]))) (φ.put id (φ id)) N w:=
   au.grow hob (φ id|>.map (·.1)) (φ id) (fun B hB=>by cases hq:φ id with|none=>simp[hq]at hB|some p=>simp[hq]at hB;exact⟨p.2,by rw[←hB]⟩) ⟨rfl,rfl,rfl,Nat.le_refl _,fun _ _ _=>rfl⟩
    (fun B c hq=> .inl (by simp[hq]))
  refine⟨.slice A' es.length m,w,φ.put id (φ id),hrun,?_,hS,?_⟩
  ·refine hR.grow hob (φ id|>.map (·.1)) (φ id) (fun B hB=>by cases hq:φ id with|none=>simp[hq]at hB|some p=>simp[hq]at hB;exact⟨p.2,by rw[←hB]⟩) ⟨rfl,rfl,rfl,Nat.le_refl _,fun _ _ _=>rfl⟩
    (fun B c hq=> .inl (by simp[hq])) (.arr e i.size _ _ hk0 hall ?_)
   rcases hbl with⟨g0,g1⟩|⟨B,cap,cur,g1,g2,g3,g4,g5,g6⟩
   ·exact .inl ⟨(aK.aD _ _ _).trans g0,by simpa using g1⟩
   ·exact .inr ⟨B,cap,cur,(aK.aD _ _ _).trans g1,g2,by simpa using g3,g4,g5,by simpa using g6⟩
  ·refine .sl _ _ _ _ _ _ _ (.arr e i.size (ver+1) (es++[])) (List.getElem?_set_self (aj hob)) (Nat.le_refl _) fun _=>⟨by simp,by simp[ay.len],?_⟩
   rcases h2 with⟨h3,h4,h5,h6⟩|⟨B,cp,h3,h4,h5,h6⟩
   ·exact .inl ⟨(aK.aD _ _ _).trans h3,by simpa using h4,rfl,h6⟩
   ·exact .inr ⟨B,cp,(aK.aD _ _ _).trans h3,by simpa using h4,by simpa[ay.k]using h5,h6⟩
 ·
  have hn1:0<news.length:=by omega
  have h63:es.length+news.length≤maxLen:=by simpa[maxLen]using hm
  have fin:∀(w':World) (B cap:Nat) (cur:Array Value) (cs:List Value),(Builtin.append_ #[t,t'] ty #[.slice A' es.length m,yv]).run P w= .ok (.slice (some ⟨B,0,none⟩) (es.length+news.length) cap) w'→
    w.grownBy w' (φ id|>.map (·.1))→((φ id|>.map (·.1))=some B∨w.heap.size≤B)→w'.heap[B]?=some (.cells cur e (0,0))→es.length+news.length≤cap→cap≤maxLen→cur.size=cap* i.size→
    cs.length=es.length* i.size→(∀(j:Nat) (u:Value),(cs++nv)[j]?=some u→cur[j]?=some u)→(∀j (hj:j<es.length) t (ht:t<(es[j]).length),∃u,cs[j* i.size+t]?=some u∧RD N w ((es[j])[t]) u)→
    ∃v' w' φ',(Builtin.append_ #[t,t'] ty #[.slice A' es.length m,yv]).run P w= .ok v' w'∧Rel (H.set id (.arr e i.size (ver+1) (es++news))) φ' N w'∧au H φ N w (H.set id (.arr e i.size (ver+1) (es++news))) φ' N w'∧
     RA (H.set id (.arr e i.size (ver+1) (es++news))) φ' N w' (.sl id (ver+1) 0 (es.length+news.length)) v':=by
   intro w' B cap cur cs hrun hg hB hcur hle hcm hsz hcl hcc hrel
   have hrow:∀B,(φ id|>.map (·.1))=some B→∃c,φ id=some (B,c):=fun B hB=>by
    cases hq:φ id with
    |none=>simp[hq]at hB
    |some p=>simp[hq]at hB;exact⟨p.2,by rw[←hB]⟩
   have hp:∀B' c',(some (B,cap):Option (Nat×Nat))=some (B',c')→(φ id|>.map (·.1))=some B'∨w.heap.size≤B':=fun B' c' h=>by cases h;exact hB
   have hS:au H φ N w (H.set id (.arr e i.size (ver+1) (es++news))) (φ.put id (some (B,cap))) N w':=au.grow hob _ _ hrow hg hp
   refine⟨_,w',φ.put id (some (B,cap)),hrun,hR.grow hob _ _ hrow hg hp (.arr e i.size _ _ hk0 hall (.inr ⟨B,cap,cur,aK.aD _ _ _,hcur,by simpa using hle,hcm,hsz,fun i' hi' j' hj'=>?_⟩)),hS,?_⟩
   ·obtain⟨u,hu,hr⟩:=Di hcl hes hk (RD N w) hrel hrel0 i' hi' j' hj'
    exact⟨u,hcc _ _ hu,hr.since hR hS⟩
   ·exact .sl _ _ _ _ _ _ _ (.arr e i.size (ver+1) (es++news)) (List.getElem?_set_self (aj hob)) (Nat.le_refl _) fun _=>⟨rfl,by simp[ay.len],.inr ⟨B,cap,aK.aD _ _ _,by omega,by simp,by simp⟩⟩
  rcases h2 with⟨h3,h4,_,rfl⟩|⟨B,cp,h3,h4,hA,hm'⟩
  ·
   have hes0:es=[]:=List.eq_nil_of_length_eq_zero h4
   subst hes0
   simp only[List.length_nil,Nat.zero_add]at*
   have hr:(Builtin.append_ #[t,t'] ty #[.slice A' 0 0,yv]).run P w=
     .ok (.slice (some ⟨w.heap.size,0,none⟩) news.length (grownCap w news.length 0 e)) (w.drew.alloc (.cells (nv.toArray++Builtin.zeroCells z.cells (grownCap w news.length 0 e-news.length)) e)):=by
    cases A' with
    |none=>exact hAR.nil hn1 (by omega) (by omega)
    |some b0=>
     have:=hAR.grow hn1 b0 0 0 [] (by simp) (by simp) (by omega) (by omega) (growslice_fits (by omega) (by simpa using hb))
     simpa using this
   refine fin _ w.heap.size _ _ [] hr ⟨rfl,rfl,rfl,by simp,fun k hk _=>Below.heap_alloc w.drew _ k hk⟩ (.inr (Nat.le_refl _)) (heap_alloc_new w.drew _) (grownCap_ge w _ _ e) (grownCap_le_maxLen w _ _ e h63) ?_ (by simp) ?_ (fun j hj=>by simp at hj)
   ·rw[Array.size_append,size_zeroCells,hz]
    simp only[List.size_toArray,hAR.len,←Nat.add_mul]
    congr 1
    have:=grownCap_ge w news.length 0 e
    omega
   ·intro j u hu
    simp only[List.nil_append]at hu
    have hj:j<nv.length:=by
     rcases Nat.lt_or_ge j nv.length with h|h
     ·exact h
     ·simp[List.getElem?_eq_none h]at hu
    rw[Array.getElem?_append_left (by simpa using hj)]
    simpa using hu
  ·rcases hbl with⟨g0,_⟩|⟨B',cap,cur,g1,g2,g3,g4,g5,g6⟩
   ·rw[g0]at h3;cases h3
   have hφ:=g1
   obtain⟨e1,e2⟩:=Prod.mk.inj (Option.some.inj (g1.symm.trans h3))
   subst e1 e2
   obtain rfl:A'=some ⟨B',0,none⟩:=by rw[hA];simp
   obtain rfl:m=cap:=by omega
   have hcs:(cur.toList.take (es.length* i.size)).length=es.length* i.size:=by
    have:=Nat.mul_le_mul_right i.size g3
    simp;omega
   have hrel:∀j (hj:j<es.length) t (ht:t<(es[j]).length),∃u,(cur.toList.take (es.length* i.size))[j* i.size+t]?=some u∧RD N w ((es[j])[t]) u:=by
    intro j hj t ht
    obtain⟨u,hu,hr⟩:=g6 j hj t ht
    refine⟨u,?_,hr⟩
    rw[List.getElem?_take,if_pos (cW (by rw[←hes _ (List.getElem_mem hj)];exact ht) hj)]
    simpa using hu
   by_cases hroom:es.length+news.length≤m
   ·have hfit:es.length* i.size+nv.length≤cur.size:=by
     rw[hAR.len,g5,←Nat.add_mul];exact Nat.mul_le_mul_right _ hroom
    have hr:=hAR.room hn1 B' es.length m cur g2 hroom hfit
    refine fin _ B' m _ (cur.toList.take (es.length* i.size)) hr ⟨rfl,rfl,rfl,by simp,fun k _ hk=>setRow_other w B' k _ (fun e=>hk (by simp[hφ,e]))⟩ (.inl (by simp[hφ])) (setRow_heap w B' cur _ e _ g2) hroom g4 ?_ hcs ?_ hrel
    ·simp only[List.size_toArray,List.length_append,List.length_take,List.length_drop,Array.length_toList]
     omega
    ·intro j u hu
     rw[List.getElem?_toArray]
     have hj:j<(cur.toList.take (es.length* i.size)++nv).length:=by
      rcases Nat.lt_or_ge j (cur.toList.take (es.length* i.size)++nv).length with h|h
      ·exact h
      ·rw[List.getElem?_eq_none h]at hu;cases hu
     rw[List.getElem?_append_left hj]
     exact hu
   ·have holds:∀j u,(cur.toList.take (es.length* i.size))[j]?=some u→w.cell? ((⟨B',0,none⟩:Addr).add j)=some u:=by
     intro j u hu
     rw[add_plain]
     simp only[World.cell?,g2]
     rw[List.getElem?_take]at hu
     split at hu
     ·simpa using hu
     ·cases hu
    have hr:=hAR.grow hn1 ⟨B',0,none⟩ es.length m (cur.toList.take (es.length* i.size)) hcs holds (by omega) (by omega) (growslice_fits (by omega) hb)
    refine fin _ w.heap.size _ _ (cur.toList.take (es.length* i.size)) hr ⟨rfl,rfl,rfl,by simp,fun k hk _=>Below.heap_alloc w.drew _ k hk⟩ (.inr (Nat.le_refl _)) (heap_alloc_new w.drew _) (grownCap_ge w _ _ e) (grownCap_le_maxLen w _ _ e h63) ?_ hcs ?_ hrel
    ·simp only[Array.size_append,size_zeroCells,hz,List.size_toArray,hcs,hAR.len]
     have:=grownCap_ge w (es.length+news.length) m e
     rw[←Nat.add_mul,←Nat.add_mul]
     congr 1
     omega
    ·intro j u hu
     have hj:j<(cur.toList.take (es.length* i.size)++nv).length:=by
      rcases Nat.lt_or_ge j (cur.toList.take (es.length* i.size)++nv).length with h|h
      ·exact h
      ·rw[List.getElem?_eq_none h]at hu;cases hu
     rw[Array.getElem?_append_left (by simpa using hj),List.append_toArray,List.getElem?_toArray]
     exact hu
theorem nr(hR:Rel H φ N w)(ty t e:TypeId)(ht:SE P t=some e)(z:Value)(k b:Nat)(hi:TI P e=some (z,k,b))(hz:z.cells.size=k)(id ver:Nat)(es news:List (List D))(xv yv:Value)(y:AV)
  (hxa:RA H φ N w (.sl id ver 0 es.length) xv) (hya:RA H φ N w y yv) (hob:H[id]?=some (.arr e k ver es))
  (hy:jy H y=some news) (hk:∀c∈news,c.length=k) (hb:(es.length+news.length)* b≤140737488355328) (hm:es.length+news.length≤9223372036854775807):
  ∃v' w' φ',(Builtin.append_ #[t,t] ty #[xv,yv]).run P w= .ok v' w'∧Rel (H.set id (.arr e k (ver+1) (es++news))) φ' N w'∧au H φ N w (H.set id (.arr e k (ver+1) (es++news))) φ' N w'∧
   RA (H.set id (.arr e k (ver+1) (es++news))) φ' N w' (.sl id (ver+1) 0 (es.length+news.length)) v':=by
 obtain⟨i,hii,hzz,rfl,rfl⟩:=TI.info hi
 have hse:=SE.get ht
 obtain⟨A,c,nv,rfl,hsrc⟩:=y8 hR hya hy hk
 have hn:∀{A:Option Addr},0<news.length→Src N w i.size news A nv→∃ad,A=some ad:=fun{A} h0 hs=>by
  cases A with
  |none=>rw[hs.nil rfl]at h0;simp at h0
  |some ad=>exact⟨ad,rfl⟩
 refine px hR ty t t e i z hz id ver es news xv _ nv ⟨hsrc.len,hsrc.one,fun h0 A' m cap hle=>?_,fun h0 h1 h2=>?_,fun h0 B m cap cur hc h1 h2=>?_,fun h0 b m cap olds h1 h2 h3 h4 h5=>?_⟩ hsrc.rel hxa hob hk hb hm
 ·rw[h0]
  cases A with
  |none=>exact nS t ty e i hse hii A' _ _ c hle w
  |some B=>exact n8 t ty e i hse hii A' _ _ c hle B w
 ·obtain⟨ad,rfl⟩:=hn h0 hsrc
  exact run_append_nil (P:=P) w t ty e i z hse hii hzz ad news.length c nv hsrc.len (hsrc.cells ad rfl) h0 h1 h2
 ·obtain⟨ad,rfl⟩:=hn h0 hsrc
  exact run_append_room (P:=P) w t ty e i hse hii B m cap cur hc ad news.length c nv hsrc.len (hsrc.cells ad rfl) hsrc.one h1 h2
 ·obtain⟨ad,rfl⟩:=hn h0 hsrc
  exact run_append_grow (P:=P) w t ty e i z hse hii hzz b m cap olds h1 h2 ad news.length c nv hsrc.len (hsrc.cells ad rfl) h3 h4 h5
def br(b:ByteArray):List (List D):=b.data.toList.map fun x=>[.v (.int .u8 (x.toNat:Int))]
theorem vb(b:ByteArray):(br b).length=b.size:=by simp[br]
theorem pq(hR:Rel H φ N w)(ty t t' e:TypeId)(ht:SE P t=some e)(hu:P.underlying t'=some .string)(z:Value)(b:Nat)(hi:TI P e=some (z,1,b))(hz:z.cells.size=1)(id ver:Nat)(es:List (List D))(xv:Value)(sb:ByteArray)
  (hxa:RA H φ N w (.sl id ver 0 es.length) xv) (hob:H[id]?=some (.arr e 1 ver es)) (hb:(es.length+(br sb).length)* b≤140737488355328) (hm:es.length+(br sb).length≤9223372036854775807):
  ∃v' w' φ',(Builtin.append_ #[t,t'] ty #[xv,.string sb]).run P w= .ok v' w'∧Rel (H.set id (.arr e 1 (ver+1) (es++br sb))) φ' N w'∧au H φ N w (H.set id (.arr e 1 (ver+1) (es++br sb))) φ' N w'∧
   RA (H.set id (.arr e 1 (ver+1) (es++br sb))) φ' N w' (.sl id (ver+1) 0 (es.length+(br sb).length)) v':=by
 obtain⟨i,hii,hzz,hs1,rfl⟩:=TI.info hi
 have hse:=SE.get ht
 have hl:=vb sb
 have hcl:(Go.Lib.strCells sb).length=sb.size:=Go.Lib.strCells_length sb
 suffices gen:∀m:Nat,m=i.size→∃v' w' φ',(Builtin.append_ #[t,t'] ty #[xv,.string sb]).run P w= .ok v' w'∧Rel (H.set id (.arr e m (ver+1) (es++br sb))) φ' N w'∧au H φ N w (H.set id (.arr e m (ver+1) (es++br sb))) φ' N w'∧
   RA (H.set id (.arr e m (ver+1) (es++br sb))) φ' N w' (.sl id (ver+1) 0 (es.length+(br sb).length)) v' from gen 1 hs1.symm
 intro m hms
 subst hms
 refine px hR ty t t' e i z (by rw[hs1];exact hz) id ver es (br sb) xv _ (Go.Lib.strCells sb) ⟨by rw[hl,hcl,hs1,Nat.mul_one],fun u hu=>Go.Lib.strCells_oneCell sb u hu,fun h0 A m cap hle=>?_,fun h0 h1 h2=>?_,fun h0 B m cap cur hc h1 h2=>?_,fun h0 a m cap olds h1 h2 h3 h4 h5=>?_⟩ (fun j hj t ht=>?_) hxa (by rw[hs1];exact hob) (fun c hc=>?_) hb hm
 ·rw[hl]at h0
  have:sb.data=#[]:=Array.eq_empty_of_size_eq_zero h0
  cases A<;>simp[Builtin.append_,run_underlying hse,run_underlying hu,sizeOf,typeInfo,hii,Builtin.lenOf,Builtin.firstCells,hle,storeCells,h0,this]
 ·rw[hl]at*
  have:=run_append_nil_string (P:=P) w t t' ty e i z hse hu hii hzz sb h0 h1 h2
  rw[this]
  have:(Go.Lib.strCells sb).toArray=sb.data.map (fun b=>Value.int .u8 b.toNat):=by apply Array.ext';simp[Go.Lib.strCells]
  rw[this]
 ·rw[hl]at*
  have:=Go.Lib.run_append_room_string (P:=P) w t t' ty e i hse hu hii hs1 B m cap cur hc sb h1 (by rw[hcl,hs1,Nat.mul_one]at h2;exact h2)
  rw[this,hcl,hs1,Nat.mul_one]
 ·rw[hl]at*
  exact Go.Lib.run_append_grow_string (P:=P) w t t' ty e i z hse hu hii hzz a m cap olds h1 h2 sb h3 h4 h5
 ·have hj':j<sb.data.size:=by rw[hl]at hj;exact hj
  have e1:(br sb)[j]=[.v (.int .u8 ((sb.data[j]).toNat:Int))]:=by simp[br]
  have ht0:t=0:=by rw[e1]at ht;simp at ht;exact ht
  subst ht0
  refine⟨.int .u8 ((sb.data[j]).toNat:Int),?_,?_⟩
  ·rw[hs1,Nat.mul_one,Nat.add_zero];simp only[Go.Lib.strCells,List.getElem?_map,Array.getElem?_toList,Array.getElem?_eq_getElem hj',Option.map_some]
  ·simp only[e1,List.getElem_cons_zero];exact .v _ rfl
 ·obtain⟨x,_,rfl⟩:=List.mem_map.1 hc
  rw[hs1];rfl
theorem s6(t t' ty e e':TypeId)(ht:P.underlying t=some (.slice e))(ht':P.underlying t'=some (.slice e'))(x y:Value)(w:World):
  (Builtin.append_ #[t,t'] ty #[x,y]).run P w=(Builtin.append_ #[t,t] ty #[x,y]).run P w:=by
 cases x<;>simp[Builtin.append_,run_underlying ht,run_underlying ht',Sem.run_bind]
theorem kN{t t' e:TypeId}(ht:SE P t=some e)(htt:t'=t∨∃e',SE P t'=some e')(ty:TypeId)(x y:Value)(w:World):
  (Builtin.append_ #[t,t'] ty #[x,y]).run P w=(Builtin.append_ #[t,t] ty #[x,y]).run P w:=by
 rcases htt with rfl|⟨e',h⟩
 ·rfl
 ·exact s6 t t' ty e e' (SE.get ht) (SE.get h) x y w
theorem An(hR:Rel H φ N w)(hT:bI H φ N w s a)(x y:Operand)(t t':TypeId)(htt:t'=t∨∃e',SE P t'=some e')(ho:o.op= .call {callee:= .builtin .append,args:=#[x,y],argTypes:=#[t,t']})(e:TypeId)(ht:SE P t=some e)
  (z:Value) (k b:Nat) (hi:TI P e=some (z,k,b)) (hz:z.cells.size=k) (id ver:Nat) (es news:List (List D)) (hx:ah s x= .sl id ver 0 es.length) (hob:H[id]?=some (.arr e k ver es))
  (hy:jy H (ah s y)=some news) (hk:∀c∈news,c.length=k) (hb:(es.length+news.length)* b≤140737488355328) (hm:es.length+news.length≤9223372036854775807):
  bW P o a w H φ N (.sl id (ver+1) 0 (es.length+news.length)) (H.set id (.arr e k (ver+1) (es++news))):=by
 obtain⟨v',w',φ',hr,h1,h2,h3⟩:=nr hR o.type t e ht z k b hi hz id ver es news (a.eval x) (a.eval y) (ah s y) (by rw[←hx];exact ar hT x) (ar hT y) hob hy hk hb hm
 refine⟨v',w',φ',N,.inl ?_,h1,h2,h3⟩
 rw[←kN ht htt]at hr
 simp[execOp,ho,resolve,invoke,Go.builtin,hr]
def isNone:AV→Bool
 | .d (.v (.slice none 0 0))=>true
 | .di=>true
 |_=>false
theorem ko{x:AV}{v:Value}(hx:RA H φ N w x v)(h:isNone x=true):∃A,v= .slice A 0 0:=by
 unfold isNone at h
 split at h
 ·exact⟨none,hx.closed⟩
 ·cases hx;exact⟨_,rfl⟩
 ·cases h
theorem au.n6(hR:Rel H φ N w)(o:ay):au H φ N w (H++[o]) (φ.put H.length none) N w where
 len:=by simp
 os:=rfl
 tape:=rfl
 output:=rfl
 size:=Nat.le_refl _
 cM _ _ _:=rfl
 own id B c hid hp hB:=by
  by_cases he:id=H.length
  ·subst he;rw[aK.aD]at hp;cases hp
  ·rw[aK.aR _ _ _ _ he]at hp
   exact⟨id,c,by simp at hid;omega,hp⟩
 mono _ h:=h
 bM id o' h:=⟨o',by rw[List.getElem?_append_left (aj h)];exact h,rfl,Nat.le_refl _,
  fun _=>⟨aK.aR _ _ _ _ (Nat.ne_of_lt (aj h)),Nat.le_refl _⟩,fun kk es he=>⟨aK.aR _ _ _ _ (Nat.ne_of_lt (aj h)),es,he⟩⟩
 nU _ h:= .inl h
theorem Rel.n6(hR:Rel H φ N w)(e:TypeId)(k:Nat)(hk:0<k)(ver:Nat:=0):Rel (H++[.arr e k ver []]) (φ.put H.length none) N w where
 obj id o' h:=by
  rcases pn h with⟨h1,h2⟩|⟨rfl,rfl⟩
  ·exact(hR.obj id o' h1).cM hR (au.n6 hR _) (aK.aR _ _ _ _ (Nat.ne_of_lt h2)) fun B c hp=>rfl
  ·exact .arr e k ver [] hk (by simp) (.inl ⟨aK.aD _ _ _,rfl⟩)
 inj i j B c c' hi hj h1 h2:=by
  simp at hi hj
  by_cases e1:i=H.length
  ·subst e1;rw[aK.aD]at h1;cases h1
  ·by_cases e2:j=H.length
   ·subst e2;rw[aK.aD]at h2;cases h2
   ·rw[aK.aR _ _ _ _ e1]at h1
    rw[aK.aR _ _ _ _ e2]at h2
    exact hR.inj i j B c c' (by omega) (by omega) h1 h2
 live:=hR.live
 apart a id B c ha hid hp:=by
  by_cases he:id=H.length
  ·subst he;rw[aK.aD]at hp;cases hp
  ·rw[aK.aR _ _ _ _ he]at hp
   exact hR.apart a id B c ha (by simp at hid;omega) hp
theorem zJ{x:AV}{es:List (List D)}(o:ay)(h:jy H x=some es):jy (H++[o]) x=some es:=by
 unfold jy at h⊢
 split at h
 ·exact h
 ·exact h
 ·exact h
 ·rename_i id ver off len
  cases ho:H[id]? with
  |none=>simp[ho]at h
  |some ob=>
   rw[List.getElem?_append_left (aj ho),ho]
   simpa[ho]using h
 ·cases h
theorem qw(hR:Rel H φ N w)(hT:bI H φ N w s a)(x y:Operand)(t t':TypeId)(htt:t'=t∨∃e',SE P t'=some e')(ho:o.op= .call {callee:= .builtin .append,args:=#[x,y],argTypes:=#[t,t']})(e:TypeId)(ht:SE P t=some e)
  (z:Value) (k b:Nat) (hi:TI P e=some (z,k,b)) (hz:z.cells.size=k) (hk0:0<k) (news:List (List D)) (hx:isNone (ah s x)=true)
  (hy:jy H (ah s y)=some news) (hk:∀c∈news,c.length=k) (hb:news.length* b≤140737488355328) (hm:news.length≤9223372036854775807):
  bW P o a w H φ N (.sl H.length 1 0 news.length) (H++[.arr e k 1 news]):=by
 obtain⟨A,hv⟩:=ko (ar hT x) hx
 have hR1:=hR.n6 e k hk0
 have hS1:=au.n6 hR (.arr e k 0 [])
 have hsl:RA (H++[.arr e k 0 []]) (φ.put H.length none) N w (.sl H.length 0 0 ([]:List (List D)).length) (.slice A 0 0):=
  .sl _ _ _ _ _ _ _ (.arr e k 0 []) (by simp) (Nat.le_refl _) fun _=>⟨rfl,by simp[ay.len],.inl ⟨aK.aD _ _ _,rfl,rfl,rfl⟩⟩
 obtain⟨v',w',φ',hr,h1,h2,h3⟩:=nr hR1 o.type t e ht z k b hi hz H.length 0 [] news (.slice A 0 0) (a.eval y) (ah s y) hsl ((ar hT y).since hR hS1) (by simp) (zJ _ hy) hk (by simpa using hb) (by simpa using hm)
 have hset:(H++[ay.arr e k 0 []]).set H.length (.arr e k (0+1) ([]++news))=H++[.arr e k 1 news]:=by simp
 rw[hset]at h1 h2 h3
 refine⟨v',w',φ',N,.inl ?_,h1,hS1.trans h2,by simpa using h3⟩
 rw[←kN ht htt]at hr
 simp[execOp,ho,resolve,invoke,Go.builtin,hv,hr]
theorem qm(hR:Rel H φ N w)(hT:bI H φ N w s a)(x y:Operand)(t t':TypeId)(ho:o.op= .call {callee:= .builtin .append,args:=#[x,y],argTypes:=#[t,t']})(e:TypeId)(ht:SE P t=some e)(hu:P.underlying t'=some .string)
  (z:Value) (b:Nat) (hi:TI P e=some (z,1,b)) (hz:z.cells.size=1) (id ver:Nat) (es:List (List D)) (sb:ByteArray) (hx:ah s x= .sl id ver 0 es.length) (hob:H[id]?=some (.arr e 1 ver es))
  (hy:ah s y= .d (.v (.string sb))) (hb:(es.length+(br sb).length)* b≤140737488355328) (hm:es.length+(br sb).length≤9223372036854775807):
  bW P o a w H φ N (.sl id (ver+1) 0 (es.length+(br sb).length)) (H.set id (.arr e 1 (ver+1) (es++br sb))):=by
 have hyv:a.eval y= .string sb:=by have:=ar hT y;rw[hy]at this;exact this.closed
 obtain⟨v',w',φ',hr,h1,h2,h3⟩:=pq hR o.type t t' e ht hu z b hi hz id ver es (a.eval x) sb (by rw[←hx];exact ar hT x) hob hb hm
 refine⟨v',w',φ',N,.inl ?_,h1,h2,h3⟩
 simp[execOp,ho,resolve,invoke,Go.builtin,hyv,hr]
theorem l7(hR:Rel H φ N w)(hT:bI H φ N w s a)(x y:Operand)(t t':TypeId)(ho:o.op= .call {callee:= .builtin .append,args:=#[x,y],argTypes:=#[t,t']})(e:TypeId)(ht:SE P t=some e)(hu:P.underlying t'=some .string)
  (z:Value) (b:Nat) (hi:TI P e=some (z,1,b)) (hz:z.cells.size=1) (sb:ByteArray) (hx:isNone (ah s x)=true)
  (hy:ah s y= .d (.v (.string sb))) (hb:(br sb).length* b≤140737488355328) (hm:(br sb).length≤9223372036854775807):
  bW P o a w H φ N (.sl H.length 1 0 (br sb).length) (H++[.arr e 1 1 (br sb)]):=by
 have hyv:a.eval y= .string sb:=by have:=ar hT y;rw[hy]at this;exact this.closed
 obtain⟨A,hv⟩:=ko (ar hT x) hx
 have hR1:=hR.n6 e 1 (Nat.succ_pos 0)
 have hS1:=au.n6 hR (.arr e 1 0 [])
 have hsl:RA (H++[.arr e 1 0 []]) (φ.put H.length none) N w (.sl H.length 0 0 ([]:List (List D)).length) (.slice A 0 0):=
  .sl _ _ _ _ _ _ _ (.arr e 1 0 []) (by simp) (Nat.le_refl _) fun _=>⟨rfl,by simp[ay.len],.inl ⟨aK.aD _ _ _,rfl,rfl,rfl⟩⟩
 obtain⟨v',w',φ',hr,h1,h2,h3⟩:=pq hR1 o.type t t' e ht hu z b hi hz H.length 0 [] (.slice A 0 0) sb hsl (by simp) (by simpa using hb) (by simpa using hm)
 have hset:(H++[ay.arr e 1 0 []]).set H.length (.arr e 1 (0+1) ([]++br sb))=H++[.arr e 1 1 (br sb)]:=by simp
 rw[hset]at h1 h2 h3
 refine⟨v',w',φ',N,.inl ?_,h1,hS1.trans h2,by simpa using h3⟩
 simp[execOp,ho,resolve,invoke,Go.builtin,hv,hyv,hr]
def qG(P:Program)(t:TypeId):Bool:=match P.underlying t with|some .string=>true|_=>false
theorem qG.get{P:Program}{t:TypeId}(h:qG P t=true):P.underlying t=some .string:=by
 unfold qG at h
 split at h
 ·assumption
 ·cases h
def pM(P:Program)(t t':TypeId)(k:Nat)(H:aa)(y:AV):Option (List (List D)):=if t'=t∨(SE P t').isSome=true then jy H y else match y with
 | .d (.v (.string b))=>if qG P t'=true∧k=1 then some (br b)else none
 |_=>none
theorem xM(P:Program)(t:TypeId)(k:Nat)(H:aa)(y:AV):pM P t t k H y=jy H y:=if_pos (.inl rfl)
theorem BI(P:Program)(t t':TypeId)(k:Nat)(H:aa)(b:ByteArray):pM P t t' k H (.d (.v (.string b)))=if t'=t then none else if qG P t'=true∧k=1 then some (br b)else none:=by
 unfold pM
 by_cases h:t'=t
 ·rw[if_pos (.inl h),if_pos h];rfl
 ·rw[if_neg h]
  by_cases hs:(SE P t').isSome=true
  ·rw[if_pos (.inr hs)]
   have:qG P t'=false:=by
    obtain⟨e,he⟩:=Option.isSome_iff_exists.1 hs
    simp[qG,SE.get he]
   simp[this,jy]
  ·rw[if_neg (by simp[h]at hs⊢;simp[hs])]
end
def eh(place:Nat→Option (Nat×Nat))(cells:List AV):List (Nat×AV)→Option (List AV)
 |[]=>some cells
 |(i,x)::rest=>match place i,cellsOf x with
  |some (off,size),some cs=>if cs.length=size∧off+size≤cells.length then eh place (eM cells off cs) rest else none
  |_,_=>none
theorem vr(off:Nat):∀(l:List Value) (n:Nat) (cs:Array Value) (t:Nat),((l.zipIdx n).foldl (fun(cs:Array Value) (c:Value×Nat)=>cs.setIfInBounds (off+c.2) c.1) cs)[t]?=
  if off+n≤t∧t<off+n+l.length∧t<cs.size then l[t-(off+n)]? else cs[t]?
 |[],n,cs,t=>by simp;omega
 |c::l,n,cs,t=>by
  simp only[List.zipIdx_cons,List.foldl_cons]
  rw[vr off l (n+1) (cs.setIfInBounds (off+n) c) t]
  simp only[Array.size_setIfInBounds,List.length_cons]
  by_cases h1:t=off+n
  ·subst h1
   rw[if_neg (by omega)]
   by_cases h2:off+n<cs.size
   ·rw[if_pos (by omega)]
    simp[h2]
   ·rw[if_neg (by omega)]
    rw[Array.getElem?_eq_none (by simpa using h2),Array.getElem?_eq_none (by omega)]
  ·by_cases h3:off+(n+1)≤t∧t<off+(n+1)+l.length∧t<cs.size
   ·rw[if_pos h3,if_pos (by omega)]
    rw[show t-(off+n)=(t-(off+(n+1)))+1 by omega,List.getElem?_cons_succ]
   ·rw[if_neg h3,if_neg (by omega),Array.getElem?_setIfInBounds_ne (by omega)]
theorem ri(off:Nat):∀(l:List (Value×Nat)) (cs:Array Value),(l.foldl (fun(cs:Array Value) (c:Value×Nat)=>cs.setIfInBounds (off+c.2) c.1) cs).size=cs.size
 |[],cs=>rfl
 |c::l,cs=>by rw[List.foldl_cons,ri off l];simp
section
variable {P:Program} {o:Oper} {a:Act} {w:World} {H:aa} {φ:aK} {N:Addr→Prop} {s:Nat→AV}
theorem mg(place:Nat→Option (Nat×Nat)):∀(parts:List (Nat×AV)) (db:List (Nat×Value)) (cells:List AV) (vs:Array Value) (out:List AV),parts.length=db.length→
  (∀i (h1:i<parts.length) (h2:i<db.length),(parts[i]).1=(db[i]).1∧RA H φ N w (parts[i]).2 (db[i]).2)→cells.length=vs.size→(∀i (h1:i<cells.length) (h2:i<vs.size),RA H φ N w (cells[i]) (vs[i]))→
  eh place cells parts=some out→∃us,Instr.fill place vs db=some us∧out.length=us.size∧us.size=vs.size∧∀i (h1:i<out.length) (h2:i<us.size),RA H φ N w (out[i]) (us[i])
 |[],db,cells,vs,out,hl,hp,hc,hr,h=>by
  have:db=[]:=List.eq_nil_of_length_eq_zero hl.symm
  subst this
  cases h
  exact⟨vs,rfl,hc,rfl,hr⟩
 |(i,x)::rest,db,cells,vs,out,hl,hp,hc,hr,h=>by
  cases db with
  |nil=>cases hl
  |cons vp vrest=>
   obtain⟨i',v⟩:=vp
   have h0:=hp 0 (by simp) (by simp)
   simp only[List.getElem_cons_zero]at h0
   obtain⟨rfl,hx⟩:=h0
   simp only[eh]at h
   cases hpl:place i with
   |none=>simp[hpl]at h
   |some q=>
    obtain⟨off,size⟩:=q
    cases hcs:cellsOf x with
    |none=>simp[hpl,hcs]at h
    |some cs=>
     simp only[hpl,hcs]at h
     split at h
     ·rename_i hsz
      obtain⟨hcl,hcr,_⟩:=lv hx hcs
      have hsize:(v.cells.zipIdx.foldl (fun cs (c,j)=>cs.setIfInBounds (off+j) c) vs).size=vs.size:=by
       rw[←Array.foldl_toList,Array.toList_zipIdx]
       exact ri off _ vs
      have hget:∀t,(v.cells.zipIdx.foldl (fun cs (c,j)=>cs.setIfInBounds (off+j) c) vs)[t]?=if off≤t∧t<off+v.cells.size∧t<vs.size then v.cells[t-off]? else vs[t]?:=by
       intro t
       rw[←Array.foldl_toList,Array.toList_zipIdx]
       have:=vr off v.cells.toList 0 vs t
       simpa using this
      obtain⟨us,hu,h1,h2,h3⟩:=mg place rest vrest (eM cells off cs) (v.cells.zipIdx.foldl (fun cs (c,j)=>cs.setIfInBounds (off+j) c) vs) out (by simpa using hl)
       (fun j hj1 hj2=>by have:=hp (j+1) (by simpa using hj1) (by simpa using hj2);simpa using this) (by rw[dk _ _ _ (by omega),hsize];exact hc) (fun j hj1 hj2=>by
        have hsp:=gn cells off cs (by omega) j
        rw[List.getElem?_eq_getElem hj1]at hsp
        have hg:=hget j
        rw[Array.getElem?_eq_getElem hj2]at hg
        rw[hsize]at hj2
        by_cases a1:j<off
        ·rw[if_pos a1,List.getElem?_eq_getElem (by omega)]at hsp
         rw[if_neg (by omega),Array.getElem?_eq_getElem hj2]at hg
         rw[Option.some.inj hsp,Option.some.inj hg]
         exact hr j (by omega) hj2
        ·rw[if_neg a1]at hsp
         by_cases a2:j<off+cs.length
         ·rw[if_pos a2,List.getElem?_eq_getElem (by omega)]at hsp
          rw[if_pos (by omega),Array.getElem?_eq_getElem (by omega)]at hg
          rw[Option.some.inj hsp,Option.some.inj hg]
          exact hcr _ (by omega) (by omega)
         ·rw[if_neg a2,List.getElem?_eq_getElem (by omega)]at hsp
          rw[if_neg (by omega),Array.getElem?_eq_getElem hj2]at hg
          rw[Option.some.inj hsp,Option.some.inj hg]
          exact hr j (by omega) hj2) h
      refine⟨us,?_,h1,h2.trans hsize,h3⟩
      have hno:(v.cells.size !=size||off+v.cells.size>vs.size)=false:=by simp;omega
      have e:Instr.fill place vs ((i,v)::vrest)=Instr.fill place (v.cells.zipIdx.foldl (fun cs (c,j)=>cs.setIfInBounds (off+j) c) vs) vrest:=by
       have hn1:v.cells.size=size:=by omega
       have hn2:¬(off+v.cells.size>vs.size):=by omega
       simp[Instr.fill,hpl,hn1]
       intro hh;omega
      rw[e,hu]
     ·cases h
def SP(P:Program)(t:TypeId):Option (List (Nat×Nat)):=
 match P.underlying t with
 |some (.struct fields)=>fields.toList.mapM fun f=>(P.info? f.type).map fun i=>(f.offset,i.size)
 |_=>none
abbrev db(a:Act)(parts:Array (Nat×Operand)):Array (Nat×Value):=parts.map fun(i,x)=>(i,a.eval x)
def b9(s:Nat→AV)(parts:Array (Nat×Operand)):List (Nat×AV):=parts.toList.map fun p=>(p.1,ah s p.2)
theorem mY(hT:bI H φ N w s a)(parts:Array (Nat×Operand)):(b9 s parts).length=(db a parts).toList.length∧
  ∀i (h1:i<(b9 s parts).length) (h2:i<(db a parts).toList.length),((b9 s parts)[i]).1=((db a parts).toList[i]).1∧
   RA H φ N w ((b9 s parts)[i]).2 ((db a parts).toList[i]).2:=by
 refine⟨by simp[b9],fun i h1 h2=>?_⟩
 simp[b9]
 exact ar hT _
theorem nX(hR:Rel H φ N w)(hT:bI H φ N w s a)(t:TypeId)(parts:Array (Nat×Operand))(ho:o.op= .build t parts)(places:List (Nat×Nat))(hp:SP P t=some places)(z:Value)(k b:Nat)(hi:TI P t=some (z,k,b))
  (hz:z.cells.all Value.oneCell'=true) (out:List AV) (h:eh (places.toArray[·]?) (bE z.cells) (b9 s parts)=some out):bW P o a w H φ N (.agg out) H:=by
 obtain⟨i,hii,hzz,rfl,rfl⟩:=TI.info hi
 unfold SP at hp
 split at hp
 ·rename_i fields hu
  obtain⟨h1,h2⟩:=mY hT parts
  obtain⟨us,hf,h3,_,h4⟩:=mg (H:=H) (φ:=φ) (N:=N) (w:=w) (places.toArray[·]?) (b9 s parts) (db a parts).toList (bE z.cells) z.cells out h1 h2 (by simp[bE]) (fun j h5 h6=>by
   simp only[bE,List.getElem_map,Array.getElem_toList]
   rw[Array.all_eq_true]at hz
   exact .d (.v _ (hz j h6))) h
  refine .same hR (.agg out us h3 h4) ?_
  have hb:P.built t (db a parts).toList=some us:=by
   unfold Program.built
   simp only[hii,hu,hzz,hp,hf]
  simp only[execOp,ho,Sem.run_bind,run_build w t _ us hb,Result.andThen_ok]
  rfl
 ·cases hp
theorem oC(hR:Rel H φ N w)(hT:bI H φ N w s a)(t:TypeId)(parts:Array (Nat×Operand))(ho:o.op= .build t parts)(n:Nat)(e:TypeId)(hp:AE P t=some (n,e))(z ze:Value)(k b ke be:Nat)(hi:TI P t=some (z,k,b))
  (hie:TI P e=some (ze,ke,be)) (hz:z.cells.all Value.oneCell'=true) (out:List AV) (h:eh (fun i=>some (i* ke,ke)) (bE z.cells) (b9 s parts)=some out):bW P o a w H φ N (.agg out) H:=by
 obtain⟨i,hii,hzz,rfl,rfl⟩:=TI.info hi
 obtain⟨ie,hie',hze,rfl,rfl⟩:=TI.info hie
 obtain⟨h1,h2⟩:=mY hT parts
 obtain⟨us,hf,h3,_,h4⟩:=mg (H:=H) (φ:=φ) (N:=N) (w:=w) (fun i=>some (i* ie.size,ie.size)) (b9 s parts) (db a parts).toList (bE z.cells) z.cells out h1 h2 (by simp[bE]) (fun j h5 h6=>by
  simp only[bE,List.getElem_map,Array.getElem_toList]
  rw[Array.all_eq_true]at hz
  exact .d (.v _ (hz j h6))) h
 refine .same hR (.agg out us h3 h4) ?_
 have hb:P.built t (db a parts).toList=some us:=by
  unfold Program.built
  simp only[hii,AE.get hp,hzz,hie',hf]
 simp only[execOp,ho,Sem.run_bind,run_build w t _ us hb,Result.andThen_ok]
 rfl
def chunk(n k:Nat)(ds:List D):List (List D):=(List.range n).map fun i=>(ds.drop (i* k)).take k
theorem a8(n k:Nat)(ds:List D):(chunk n k ds).length=n:=by simp[chunk]
theorem ky{n k:Nat}{ds:List D}(h:ds.length=n* k):∀e∈chunk n k ds,e.length=k:=by
 intro e he
 obtain⟨i,hi,rfl⟩:=List.mem_map.1 he
 simp at hi
 have:=Nat.mul_le_mul_right k (show i+1≤n by omega)
 rw[Nat.add_mul]at this
 simp;omega
def gV(z:Value)(n:Nat):List AV:=(List.range n).map fun i=> .d (.v (z.cells[i%z.cells.size]!))
theorem j9(hR:Rel H φ N w)(hT:bI H φ N w s a)(t:TypeId)(n:Nat)(parts:Array (Nat×Operand))(e:TypeId)(ht:SE P t=some e)(z:Value)(k b:Nat)(hi:TI P e=some (z,k,b))
  (hz:z.cells.size=k) (h1:z.cells.all Value.oneCell'=true) (h24:n* k≤16777216) (hn:0<n* k) (out:List AV) (h:eh (fun i=>some (i* k,k)) (gV z (n* k)) (b9 s parts)=some out):
  ∃us:Array Value,(Instr.buildSlice t n (db a parts)).run P w= .ok (.slice (some ⟨w.heap.size,0,none⟩) n n) (w.alloc (.cells us e))∧us.size=n* k∧out.length=n* k∧
   ∀i (h1:i<out.length) (h2:i<us.size),RA H φ N w (out[i]) (us[i]):=by
 obtain⟨i,hii,hzz,rfl,rfl⟩:=TI.info hi
 obtain⟨h2,h3⟩:=mY hT parts
 obtain⟨us,hf,h4,h5,h6⟩:=mg (H:=H) (φ:=φ) (N:=N) (w:=w) (fun j=>some (j* i.size,i.size)) (b9 s parts) (db a parts).toList (gV z (n* i.size)) ((Array.range (n* i.size)).map (z.cells[·%z.cells.size]!)) out h2 h3
  (by simp[gV]) (fun j g1 g2=>by
   simp only[gV,List.getElem_map,List.getElem_range,Array.getElem_map,Array.getElem_range]
   refine .d (.v _ ?_)
   have hpos:0<z.cells.size:=by
    rcases Nat.eq_zero_or_pos z.cells.size with h0|h0
    ·rw[hz]at h0;simp[h0]at hn
    ·exact h0
   rw[Array.all_eq_true]at h1
   have hlt:=Nat.mod_lt j hpos
   rw[getElem!_pos z.cells _ hlt]
   exact h1 _ hlt) h
 refine⟨us,run_buildSlice w t e n _ us i z (SE.get ht) hii hzz (by omega) (by omega) hf,by rw[h5];simp,by rw[h4,h5];simp,h6⟩
theorem qv(hR:Rel H φ N w)(hT:bI H φ N w s a)(t:TypeId)(n:Nat)(parts:Array (Nat×Operand))(ho:o.op= .buildSlice t n parts)(e:TypeId)(ht:SE P t=some e)(z:Value)(k b:Nat)(hi:TI P e=some (z,k,b))
  (hz:z.cells.size=k) (h1:z.cells.all Value.oneCell'=true) (h24:n* k≤16777216) (hn:0<n* k) (out:List AV) (h:eh (fun i=>some (i* k,k)) (gV z (n* k)) (b9 s parts)=some out)
  (ds:List D) (hd:mV out=some ds):bW P o a w H φ N (.d (.list true (chunk n k ds))) H:=by
 obtain⟨us,hrun,hu,hol,hr⟩:=j9 hR hT t n parts e ht z k b hi hz h1 h24 hn out h
 have hS:=au.fixed hR (.cells us e) (fun a=>N a∨(a.block=w.heap.size∧a.spot=none∧a.off<us.size)) (fun _ h=> .inl h) (fun _ h=>h.imp_right And.left)
 have hdl:ds.length=n* k:=by rw[←hol,iQ hd];simp
 have hk0:0<k:=Nat.pos_of_mul_pos_left hn
 refine⟨_,_,φ,_,.inl (by simp only[execOp,ho,Sem.run_bind,hrun,Result.andThen_ok];rfl),hR.fixed us e (0,0),hS,.d ?_⟩
 have hrow:∀i j,i<n→j<k→i* k+j<us.size:=fun i j hi hj=>by rw[hu];exact cW hj hi
 have key:=RD.list (N:=fun a=>N a∨(a.block=w.heap.size∧a.spot=none∧a.off<us.size)) (w:=w.alloc (.cells us e)) true (chunk n k ds) ⟨w.heap.size,0,none⟩ n k (fun i j=>us.getD (i* k+j) undef)
  (by rw[a8];exact Nat.le_refl _) (ky hdl) (fun i j hi hj=>by
   rw[a8]at hi
   rw[add_plain]
   simp only[Nat.zero_add]
   refine⟨.inr (by simpa using hrow i j hi hj),?_⟩
   rw[World.cell?_alloc_new]
   simp[Array.getD,hrow i j hi hj]) (fun i hi j hj=>by
   rw[a8]at hi
   have hj':j<k:=by
    have hmem:(chunk n k ds)[i]'(by rw[a8];exact hi)∈chunk n k ds:=List.getElem_mem _
    rw[ky hdl _ hmem]at hj
    exact hj
   have hlt:=hrow i j hi hj'
   have hra:=hr (i* k+j) (by omega) hlt
   have hod:out[i* k+j]'(by omega)= .d (ds[i* k+j]'(by omega)):=by
    have:=iQ hd
    simp[this]
   rw[hod]at hra
   cases hra with
   |d hrd=>
   have e1:((chunk n k ds)[i]'(by rw[a8];exact hi))[j]'hj=ds[i* k+j]'(by omega):=by simp[chunk]
   rw[e1]
   simp only[Array.getD,hlt,dif_pos]
   exact hrd.since hR hS)
 rw[a8]at key
 exact key
theorem l8(hR:Rel H φ N w)(hT:bI H φ N w s a)(t:TypeId)(n:Nat)(parts:Array (Nat×Operand))(ho:o.op= .buildSlice t n parts)(e:TypeId)(ht:SE P t=some e)(z:Value)(k b:Nat)(hi:TI P e=some (z,k,b))
  (hz:z.cells.size=k) (h1:z.cells.all Value.oneCell'=true) (h24:n* k≤16777216) (hn:0<n* k) (out:List AV) (h:eh (fun i=>some (i* k,k)) (gV z (n* k)) (b9 s parts)=some out)
  (ds:List D) (hd:mV out=some ds):bW P o a w H φ N (.sl H.length 0 0 n) (H++[.arr e k 0 (chunk n k ds)]):=by
 obtain⟨us,hrun,hu,hol,hr⟩:=j9 hR hT t n parts e ht z k b hi hz h1 h24 hn out h
 have hdl:ds.length=n* k:=by rw[←hol,iQ hd];simp
 have hk0:0<k:=Nat.pos_of_mul_pos_left hn
 have hnm:n≤maxLen:=by
  have:=Nat.le_mul_of_pos_right n hk0
  simp only[maxLen];omega
 have hlen:n=(chunk n k ds).length:=(a8 n k ds).symm
 refine⟨_,_,_,N,.inl (by simp only[execOp,ho,Sem.run_bind,hrun,Result.andThen_ok];rfl),hR.zk e k (chunk n k ds) us hk0 (ky hdl) (by rw[a8];exact hnm) (by rw[a8];exact hu) (fun i hi j hj=>?_),au.new hR _ _ _,?_⟩
 ·rw[a8]at hi
  have hj':j<k:=by
   have hmem:(chunk n k ds)[i]'(by rw[a8];exact hi)∈chunk n k ds:=List.getElem_mem _
   rw[ky hdl _ hmem]at hj
   exact hj
  have hlt:i* k+j<us.size:=by rw[hu];exact cW hj' hi
  have hra:=hr (i* k+j) (by omega) hlt
  have hod:out[i* k+j]'(by omega)= .d (ds[i* k+j]'(by omega)):=by
   have:=iQ hd
   simp[this]
  rw[hod]at hra
  cases hra with
  |d hrd=>
  refine⟨us[i* k+j],by simp[hlt],?_⟩
  have e1:((chunk n k ds)[i]'(by rw[a8];exact hi))[j]'hj=ds[i* k+j]'(by omega):=by simp[chunk]
  rw[e1]
  exact hrd
 ·refine .sl _ _ _ _ _ _ _ (.arr e k 0 (chunk n k ds)) (by simp) (Nat.le_refl _) fun _=>⟨rfl,by simp[ay.len,a8],.inr ⟨w.heap.size,(chunk n k ds).length,aK.aD _ _ _,by rw[a8];omega,by simp,by rw[a8];simp⟩⟩
theorem tn(hR:Rel H φ N w)(hT:bI H φ N w s a)(t:TypeId)(l c:Operand)(ho:o.op= .makeSlice t l c)(e:TypeId)(ht:SE P t=some e)(z:Value)(k b:Nat)(hi:TI P e=some (z,k,b))
  (hk:0<k) (hz:z.cells.size=k) (h1:z.cells.all Value.oneCell'=true) (kl kc:IntKind) (n:Int) (hl:closed (ah s l)=some (.int kl n)) (hc:closed (ah s c)=some (.int kc n))
  (h0:0≤n) (hn:n≤1000000000000) (hb:n* b≤140737488355328):bW P o a w H φ N (.sl H.length 0 0 n.toNat) (H++[.arr e k 0 (List.replicate n.toNat (z.cells.toList.map D.v))]):=by
 have hl':=bC (ar hT l) hl
 have hc':=bC (ar hT c) hc
 obtain⟨i,hii,hzz,rfl,rfl⟩:=TI.info hi
 obtain⟨m,rfl⟩:=Int.eq_ofNat_of_zero_le h0
 simp only[Int.toNat_natCast]
 have wm:IntKind.i64.wrap (m:Int)=(m:Int):=by rw[IntKind.wrap_i64];omega
 have hnew:∀ob,Sem.run P (Sem.new ob Sem.pure) w= .ok w.heap.size (w.alloc ob):=fun _=>rfl
 have hb2:m* i.bytes≤140737488355328:=by
  have:((m* i.bytes:Nat):Int)≤140737488355328:=by rw[Int.natCast_mul];exact hb
  omega
 have hb3:¬(281474976710656<(i.bytes:Int)* (m:Int)):=by rw[Int.mul_comm];omega
 have hb4:¬(m* i.bytes>roomBytes):=by show ¬(m* i.bytes>2^47);omega
 have n1:¬(m:Int)<0:=by omega
 have hrun:(Instr.makeSlice t (.int kl m) (.int kc m)).run P w= .ok (.slice (some ⟨w.heap.size,0,none⟩) m m) (w.alloc (.cells ((Array.range (m* i.size)).map (z.cells[·%z.cells.size]!)) e)):=by
  by_cases hm0:m=0
  ·subst hm0
   have he:∀f:Nat→Value,Array.map f (Array.range 0)=#[]:=fun f=>by simp
   simp[Instr.makeSlice,run_underlying (SE.get ht),sizeOf,typeInfo,hii,asInt,asIntOf,askRoom,newRow,newObj,Result.andThen,Sem.run_bind,IntKind.wrap_i64,hnew,he]
  ·have hms:¬(m* i.size=0):=by
    intro h
    rcases Nat.mul_eq_zero.1 h with h|h<;>omega
   simp[Instr.makeSlice,run_underlying (SE.get ht),sizeOf,typeInfo,hii,hzz,zeroValue,asInt,asIntOf,askRoom,newRow,newObj,Result.andThen,Sem.run_bind,wm,n1,hb3,hb4,hms,hnew]
 have hus:((Array.range (m* i.size)).map (z.cells[·%z.cells.size]!)).size=m* i.size:=by simp
 refine⟨.slice (some ⟨w.heap.size,0,none⟩) m m,_,_,N,.inl (by simp only[execOp,ho,hl',hc',Sem.run_bind,hrun,Result.andThen_ok];rfl),hR.zk e i.size (List.replicate m (z.cells.toList.map D.v)) ((Array.range (m* i.size)).map (z.cells[·%z.cells.size]!)) hk (fun cs hcs=>?_) (by rw[List.length_replicate];simp only[maxLen];omega) (by rw[List.length_replicate];exact hus) (fun i' hi' j hj=>?_),au.new hR _ _ _,?_⟩
 ·rw[List.eq_of_mem_replicate hcs,List.length_map,Array.length_toList,hz]
 ·rw[List.length_replicate]at hi'
  have hrow:(List.replicate m (z.cells.toList.map D.v))[i']'(by rw[List.length_replicate];exact hi')=z.cells.toList.map D.v:=List.getElem_replicate ..
  have hj':j<i.size:=by rw[hrow,List.length_map,Array.length_toList,hz]at hj;exact hj
  have hjz:j<z.cells.size:=by omega
  refine⟨z.cells[j],?_,?_⟩
  ·have hlt:=cW hj' hi'
   have hmod:(i'* i.size+j)%z.cells.size=j:=by rw[hz,Nat.mul_comm,Nat.mul_add_mod,Nat.mod_eq_of_lt hj']
   simp only[Array.getElem?_map,Array.getElem?_range,hlt,if_true,Option.map_some,hmod]
   rw[getElem!_pos z.cells _ hjz]
  ·have e1:((List.replicate m (z.cells.toList.map D.v))[i']'(by rw[List.length_replicate];exact hi'))[j]'hj= .v z.cells[j]:=by
    have:∀(L:List D) (hL:L=z.cells.toList.map D.v) (hj:j<L.length),L[j]= .v z.cells[j]:=by
     intro L hL hj
     subst hL
     simp
    exact this _ hrow hj
   rw[e1]
   refine .v _ ?_
   rw[Array.all_eq_true]at h1
   exact h1 j hjz
 ·refine .sl _ _ _ _ _ _ _ (.arr e i.size 0 (List.replicate m (z.cells.toList.map D.v))) (by simp) (Nat.le_refl _) fun _=>⟨rfl,by simp[ay.len],.inr ⟨w.heap.size,(List.replicate m (z.cells.toList.map D.v)).length,aK.aD _ _ _,by rw[List.length_replicate];omega,by simp,by rw[List.length_replicate];simp⟩⟩
theorem lq(hR:Rel H φ N w)(t:TypeId)(ho:o.op= .buildSlice t 0 #[])(e:TypeId)(ht:SE P t=some e)(z:Value)(k b:Nat)(hi:TI P e=some (z,k,b)):bW P o a w H φ N .di H:=by
 obtain⟨i,hii,hzz,rfl,rfl⟩:=TI.info hi
 refine⟨.slice (some ⟨w.heap.size,0,none⟩) 0 0,w.alloc (.cells #[] e),φ,fun a=>N a∨(a.block=w.heap.size∧a.spot=none∧a.off<(#[]:Array Value).size),.inl ?_,hR.fixed #[] e (0,0),au.fixed hR _ _ (fun _ h=> .inl h) (fun _ h=>h.imp_right And.left),.di _⟩
 have he:(Array.map (fun x:Nat=>(default:Value)) (Array.range 0))=#[]:=by simp
 simp[execOp,ho,Instr.buildSlice,run_underlying (SE.get ht),sizeOf,typeInfo,hii,Instr.fill,newRow,newObj,he]
 rfl
def aS(s:Nat→AV):Option Operand→Option Int
 |none=>some 0
 |some x=>match closed (ah s x)with|some (.int _ n)=>some n|_=>none
def cK(s:Nat→AV)(len:Nat):Option Operand→Option Int
 |none=>some len
 |some x=>match closed (ah s x)with|some (.int _ n)=>some n|_=>none
theorem eO(hT:bI H φ N w s a){x:Operand}{n:Int}(h:(match closed (ah s x)with|some (.int _ n)=>some n|_=>none)=some n)(y:Nat)(code:BoundsCode)(h0:0≤n)(h1:n≤y):
  (Instr.sliceBound (a.eval x) y code).run P w= .ok n.toNat w:=by
 split at h
 ·rename_i k m hc
  cases h
  rw[bC (ar hT x) hc]
  simp[Instr.sliceBound,asIntOf,h0,h1]
 ·cases h
theorem fS(hT:bI H φ N w s a)(isS:Bool){lo hi:Option Operand}(len cap:Nat){l h:Int}(hl:aS s lo=some l)(hh:cK s len hi=some h)(h0:0≤l)(h1:l≤h)(h2:h≤cap):
  (Instr.sliceBounds isS len cap (lo.map a.eval) (hi.map a.eval) none).run P w= .ok (l.toNat,h.toNat,cap) w:=by
 cases lo with
 |none=>
  cases hl
  cases hi with
  |none=>cases hh;simp[Instr.sliceBounds]
  |some y=>
   have:=eO (P:=P) hT hh cap (if isS then .sliceAcap else .sliceAlen) (by omega) h2
   cases isS<;>simp_all [Instr.sliceBounds]
 |some x=>
  cases hi with
  |none=>
   cases hh
   have hx:=eO (P:=P) hT hl len .sliceB h0 (by omega)
   simp_all [Instr.sliceBounds]
  |some y=>
   have hy:=eO (P:=P) hT hh cap (if isS then .sliceAcap else .sliceAlen) (by omega) h2
   have hx:=eO (P:=P) hT hl h.toNat .sliceB h0 (by omega)
   cases isS<;>simp_all [Instr.sliceBounds]
theorem te(hR:Rel H φ N w)(hT:bI H φ N w s a)(t:TypeId)(x:Operand)(lo hi:Option Operand)(ho:o.op= .slice t x lo hi none)(hu:P.underlying t=some .string)(b:ByteArray)(hx:closed (ah s x)=some (.string b))
  (l h:Int) (hl:aS s lo=some l) (hh:cK s b.size hi=some h) (h0:0≤l) (h1:l≤h) (h2:h≤b.size):bW P o a w H φ N (.d (.v (.string (b.extract l.toNat h.toNat)))) H:=by
 have hv:=bC (ar hT x) hx
 refine .same hR (.d (.v _ rfl)) ?_
 simp[execOp,ho,hv,Instr.sliceAt,Instr.slice,run_underlying hu,fS hT false b.size b.size hl hh h0 h1 h2]
theorem qd(hR:Rel H φ N w)(hT:bI H φ N w s a)(t:TypeId)(x:Operand)(lo hi:Option Operand)(ho:o.op= .slice t x lo hi none)(e:TypeId)(ht:SE P t=some e)(z:Value)(k b:Nat)(hi':TI P e=some (z,k,b))
  (nn:Bool) (es:List (List D)) (hx:ah s x= .d (.list nn es)) (hes:∀c∈es,c.length=k) (l h:Int) (hl:aS s lo=some l) (hh:cK s es.length hi=some h) (h0:0≤l) (h1:l≤h) (h2:h≤es.length):
  bW P o a w H φ N (.d (.list false ((es.take h.toNat).drop l.toNat))) H:=by
 have hxa:=ar hT x
 rw[hx]at hxa
 generalize hv:a.eval x=v at hxa
 cases hxa with
 |d hd=>
 cases hd with
 |nil A c hA=>
  simp only[List.length_nil]at h2 hh
  have hl0:l=0:=by omega
  have hh0:h=0:=by omega
  subst hl0 hh0
  refine .same hR (x:= .slice (if c=0 then A else A.map (·.add (0* k))) 0 c) (by simp only[List.take_nil,List.drop_nil];exact .d (.nil _ _ fun hn=>by by_cases hc:c=0;exact hc;rw[if_neg hc]at hn;exact hA (by simpa using hn))) ?_
  simp[execOp,ho,hv,Instr.sliceAt,Instr.slice,run_underlying (SE.get ht),fS hT true 0 c hl hh (by omega) (by omega) (by omega),TI.sizeOf hi']
 |list _ _ ad cap k' c hc hk' hcell hrd=>
  have hlen:(((es.take h.toNat).drop l.toNat)).length=h.toNat-l.toNat:=by simp;omega
  refine .same hR (x:= .slice (if cap=l.toNat then some ad else some (ad.add (l.toNat* k))) (h.toNat-l.toNat) (cap-l.toNat)) (.d ?_) ?_
  ·by_cases hemp:h.toNat-l.toNat=0
   ·have:(es.take h.toNat).drop l.toNat=[]:=List.eq_nil_of_length_eq_zero (by omega)
    rw[this,hemp]
    exact .nil _ _ (fun hn=>by split at hn<;>cases hn)
   ·have hk'':k'=k:=by
     have h3:0<es.length:=by omega
     rw[←hk' _ (List.getElem_mem h3),hes _ (List.getElem_mem h3)]
    subst hk''
    rw[if_neg (by omega),←hlen]
    refine .list false _ (ad.add (l.toNat* k')) _ k' (fun i j=>c (l.toNat+i) j) (by rw[hlen];omega) (fun e he=>hes e (List.mem_of_mem_take (List.mem_of_mem_drop he))) (fun i j hi hj=>?_) (fun i hi j hj=>?_)
    ·rw[hlen]at hi
     rw[add_add]
     have:=hcell (l.toNat+i) j (by omega) hj
     rw[Nat.add_mul,Nat.add_assoc]at this
     exact this
    ·have hi2:i<h.toNat-l.toNat:=by rw[←hlen];exact hi
     have hge:((es.take h.toNat).drop l.toNat)[i]'hi=es[l.toNat+i]'(by omega):=by simp
     have hj2:j<(es[l.toNat+i]'(by omega)).length:=by rw[←hge];exact hj
     have:=hrd (l.toNat+i) (by omega) j hj2
     simpa[hge]using this
  ·simp[execOp,ho,hv,Instr.sliceAt,Instr.slice,run_underlying (SE.get ht),fS hT true es.length cap hl hh h0 h1 (by omega),TI.sizeOf hi']
theorem nu(hT:bI H φ N w s a){lo:Option Operand}{hi mx:Operand}(len cap:Nat){l h m:Int}(hl:aS s lo=some l)(hh:aS s (some hi)=some h)(hm:aS s (some mx)=some m)(h0:0≤l)(h1:l≤h)(h2:h≤m)(h3:m≤cap):
  (Instr.sliceBounds true len cap (lo.map a.eval) (some (a.eval hi)) (some (a.eval mx))).run P w= .ok (l.toNat,h.toNat,m.toNat) w:=by
 have hx:=eO (P:=P) hT hm cap .slice3Acap (by omega) h3
 have hy:=eO (P:=P) hT hh m.toNat .slice3B (by omega) (by omega)
 cases lo with
 |none=>cases hl;simp_all [Instr.sliceBounds]
 |some x=>
  have hz:=eO (P:=P) hT hl h.toNat .slice3C h0 (by omega)
  simp_all [Instr.sliceBounds]
theorem om(hR:Rel H φ N w)(hT:bI H φ N w s a)(t:TypeId)(x:Operand)(lo:Option Operand)(hi mx:Operand)(ho:o.op= .slice t x lo (some hi) (some mx))(e:TypeId)(ht:SE P t=some e)(z:Value)(k b:Nat)(hi':TI P e=some (z,k,b))
  (nn:Bool) (es:List (List D)) (hx:ah s x= .d (.list nn es)) (hes:∀c∈es,c.length=k) (l h m:Int) (hl:aS s lo=some l) (hh:aS s (some hi)=some h) (hm:aS s (some mx)=some m) (h0:0≤l) (h1:l≤h) (h2:h≤m) (h3:m≤es.length):
  bW P o a w H φ N (.d (.list false ((es.take h.toNat).drop l.toNat))) H:=by
 have hxa:=ar hT x
 rw[hx]at hxa
 generalize hv:a.eval x=v at hxa
 cases hxa with
 |d hd=>
 cases hd with
 |nil A c hA=>
  simp only[List.length_nil]at h3
  have hl0:l=0:=by omega
  have hh0:h=0:=by omega
  have hm0:m=0:=by omega
  subst hl0 hh0 hm0
  refine .same hR (x:= .slice A 0 0) (by simp only[List.take_nil,List.drop_nil];exact .d (.nil _ _ fun _=>rfl)) ?_
  have:=nu (P:=P) hT 0 c hl hh hm (by omega) (by omega) (by omega) (by omega)
  simp[execOp,ho,hv,Instr.sliceAt,Instr.slice,run_underlying (SE.get ht),this,TI.sizeOf hi']
 |list _ _ ad cap k' c hc hk' hcell hrd=>
  have hlen:(((es.take h.toNat).drop l.toNat)).length=h.toNat-l.toNat:=by simp;omega
  refine .same hR (x:= .slice (if m.toNat=l.toNat then some ad else some (ad.add (l.toNat* k))) (h.toNat-l.toNat) (m.toNat-l.toNat)) (.d ?_) ?_
  ·by_cases hemp:h.toNat-l.toNat=0
   ·have:(es.take h.toNat).drop l.toNat=[]:=List.eq_nil_of_length_eq_zero (by omega)
    rw[this,hemp]
    exact .nil _ _ (fun hn=>by split at hn<;>cases hn)
   ·have hk'':k'=k:=by
     have h3:0<es.length:=by omega
     rw[←hk' _ (List.getElem_mem h3),hes _ (List.getElem_mem h3)]
    subst hk''
    rw[if_neg (by omega),←hlen]
    refine .list false _ (ad.add (l.toNat* k')) _ k' (fun i j=>c (l.toNat+i) j) (by rw[hlen];omega) (fun e he=>hes e (List.mem_of_mem_take (List.mem_of_mem_drop he))) (fun i j hi hj=>?_) (fun i hi j hj=>?_)
    ·rw[hlen]at hi
     rw[add_add]
     have:=hcell (l.toNat+i) j (by omega) hj
     rw[Nat.add_mul,Nat.add_assoc]at this
     exact this
    ·have hi2:i<h.toNat-l.toNat:=by rw[←hlen];exact hi
     have hge:((es.take h.toNat).drop l.toNat)[i]'hi=es[l.toNat+i]'(by omega):=by simp
     have hj2:j<(es[l.toNat+i]'(by omega)).length:=by rw[←hge];exact hj
     have:=hrd (l.toNat+i) (by omega) j hj2
     simpa[hge]using this
  ·have:=nu (P:=P) hT es.length cap hl hh hm h0 h1 h2 (by omega)
   simp[execOp,ho,hv,Instr.sliceAt,Instr.slice,run_underlying (SE.get ht),this,TI.sizeOf hi']
end
end Go.Proofs.YtggohfhfocgilaaGreatAw

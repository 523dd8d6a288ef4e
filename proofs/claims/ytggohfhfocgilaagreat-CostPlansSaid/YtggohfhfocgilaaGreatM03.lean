/- Contracts of functions and lemmas for costPlans_holds, part 3. -/
import Derived.RangeFuncRecord
import Derived.OrdersIn
import Derived.LoopNIn
import Derived.Test.YtggohfhfocgilaaGreatProg
import Derived.KernelRfl
import Derived.Test.YtggohfhfocgilaaGreatM02
set_option maxHeartbeats 8000000
set_option maxRecDepth 100000
set_option linter.all false
namespace Go.Proofs.YtggohfhfocgilaaGreatAw
open Go.RowKit
inductive AX where
 |normal
 |exit (id:Nat)
 |ret
 |panic (v:Value)
def AX.Ar:AX→Exit
 | .normal=> .normal
 | .exit id=> .exit id
 | .ret=> .ret
 | .panic v=> .panic [{v:=v,recovered:=false}]
abbrev aQ:=AX→(Nat→AV)→aa→Prop
def AX.jump:AX→Option Code
 | .ret=>some .ret
 | .exit id=>some (.exit id)
 |_=>none
inductive iG (m:Nat):AV→Prop
 |top:iG m .top
 |d (x:D):iG m (.d x)
 |cU:iG m .cU
 |ptr (id ag i j:Nat) (h:id<m):iG m (.ptr id ag i j)
 |bW (cs:List D):iG m (.bW cs)
 |sl (id ag off len:Nat) (h:id<m):iG m (.sl id ag off len)
 |agg (cs:List AV) (h:∀i (hi:i<cs.length),iG m (cs[i])):iG m (.agg cs)
 |bq (cs:List AV) (h:∀i (hi:i<cs.length),iG m (cs[i])):iG m (.bq cs)
 |fn (f:FuncId) (cs:List AV) (h:∀i (hi:i<cs.length),iG m (cs[i])):iG m (.fn f cs)
 |mp (id:Nat) (h:id<m):iG m (.mp id)
 |gl (id:Nat) (h:id<m):iG m (.gl id)
abbrev zv(m:Nat)(o:aA):Prop:=(∀e k ag n cs,o= .box e k ag n cs→∀c∈cs,iG m c)∧(∀kk es,o= .mp kk es→∀e∈es,iG m e.2)∧(∀m' since seen,o= .iter m' since seen→m'<m)∧∀r s,o= .lp r s→∀t,iG m (s t)
def jG(m:Nat)(H:aa):Prop:=∀(i:Nat) (o:aA),H[i]?=some o→zv m o
def r1(P:Program)(G:aa)(id:Nat)(args:List AV)(R:Bool→aa→Prop):Prop:=
 (∃r s,G[id]?=some (.lp r s))∧∀(φ:aI) (N:Addr→Prop) (w:World) (vals:Array Value) (B c:Nat),Rel G φ N w→oG G φ N w args vals→φ id=some (B,c)→
  ∃fn tmps assign body,(Instr.yield B vals).run P w= .ok (.round B fn tmps assign body) w∧RoundIn Fence.wide 0 P B fn tmps assign body w fun e w'=>
   ∃b H' φ' N',e= .returned (.bool b)∧R b H'∧Rel H' φ' N' w'∧ar G φ N w H' φ' N' w'
def pt(P:Program)(f:FuncId)(args:List AV)(H:aa)(R:lK→aa→Prop):Prop:=
 ∀(φ:aI) (N:Addr→Prop) (w:World) (vals:Array Value),Rel H φ N w→oG H φ N w args vals→
  (callFunc f vals).run P w= .ok (.enter f vals) w∧Calls P f vals w fun e w'=>∃res H' φ' N',R res H'∧Rel H' φ' N' w'∧ar H φ N w H' φ' N' w'∧qx H' φ' N' w' res e
def p3(r:Loop)(c:Code):Loop:={r with state:= .done,pending:=some c}
def oe(P:Program)(gf:FuncId)(caps:List AV)(C:aa→Prop)(xs:List (List AV)):Prop:=
 ∀(r:Loop) (s:Nat→AV) (J:Nat→aa→Prop) (Jx:Code→aa→Prop) (m:Nat) (Hs:aa),J 0 Hs→(∀t,iG m (s t))→(∀k Hk,J k Hk→C Hk∧jG m Hk∧Hk.length=m)→
  (∀k (hk:k<xs.length) Hk T,J k Hk→r1 P (Hk++ .lp r s::T) m (xs[k]) fun b G=>if b=true then ∃Hk',J (k+1) Hk'∧G=Hk'++ .lp r s::T else ∃Hk' c,Jx c Hk'∧jG m Hk'∧Hk'.length=m∧G=Hk'++ .lp (p3 r c) s::T)→
  pt P gf (.gl m::caps) (Hs++[.lp r s]) fun res G=>res= .ok (.bq [])∧((∃Hn,J xs.length Hn∧G=Hn++[.lp r s])∨∃Hx c,Jx c Hx∧Hx.length=m∧G=Hx++[.lp (p3 r c) s])
def bl(n:Nat)(s:Nat→AV)(d:Option Tmp)(v:AV):Nat→AV:=
 match d with
 |some d=>fun t=>if t=d then(if d<n then v else .top)else s t
 |none=>s
def aB(P:Program)(hint:Nat→Bool)(s:Nat→AV)(H:aa)(o:Oper)(K:AV→aa→Prop)(KP:Value→aa→Prop):Prop:=
 match o.op with
 | .panic x=>(match closed (ai s x)with|some (.iface t u)=>KP (.iface t u) H|_=>False)
 | .call c=>(match c.callee with
  | .value f=>(match ai s f with
   | .fn g caps=>∃res H',ah P g (c.args.toList.map (ai s)++caps) H res H'∧(match res with| .ok r=>K r H'| .panic v=>KP v H')
   | .gl id=>hint 3000000=true∧∃R,r1 P H id (c.args.toList.map (ai s)) R∧∀b H',R b H'→K (.d (.v (.bool b))) H'
   |_=>False)
  | .builtin b=>bU P s H b c.args.toList c.argTypes.toList K
  |_=>False)
 |op=>fI P s H (match o.dst with|some d=>hint d|none=>false) op K
def Gi(want:Bool):AV→Option Bool
 | .d (.v (.bool b))=>some (b==want)
 | .bq []=>some false
 |_=>none
def eH(ops:Array Oper)(s:Nat→AV)(n:Nat)(j:Nat)(want:Bool):Option Bool:=
 match(ops[j]?).bind (·.dst)with
 |some d=>if d<n then Gi want (s d)else none
 |none=>none
def cy(P:Program)(hint:Nat→Bool)(n:Nat)(ops:Array Oper)(Q:aQ)(o:Oper)(K:(Nat→AV)→aa→Prop)(s:Nat→AV)(H:aa):Prop:=
 match o.guard with
 |none=>aB P hint s H o (fun r H'=>K (bl n s o.dst r) H') fun v H'=>Q (.panic v) s H'
 |some (j,want)=>(match eH ops s n j want with
  |some b=>if b=true then aB P hint s H o (fun r H'=>K (bl n s o.dst r) H') (fun v H'=>Q (.panic v) s H')else K (bl n s o.dst (.bq [])) H
  |none=>False)
def aM(P:Program)(hint:Nat→Bool)(n:Nat)(ops:Array Oper)(Q:aQ):List Oper→(Nat→AV)→aa→Prop
 |[],s,H=>Q .normal s H
 |o::rest,s,H=>cy P hint n ops Q o (aM P hint n ops Q rest) s H
def eN(P:Program)(hint:Nat→Bool)(n:Nat)(ops:Array Oper)(Q:aQ):Nat→Array Bool→(Nat→AV)→aa→Prop
 |0,listed,s,H=>Region.ready .any ops listed=[]∧Q .normal s H
 |fuel+1,listed,s,H=>(Region.ready .any ops listed=[]→Q .normal s H)∧
   ∀i∈Region.ready .any ops listed,match ops[i]? with
    |none=>eN P hint n ops Q fuel (listed.setIfInBounds i true) s H
    |some o=>cy P hint n ops Q o (eN P hint n ops Q fuel (listed.setIfInBounds i true)) s H
def kn(H:aa)(m:Nat):AV→AV
 | .ptr id v i j=>if id<m then .ptr id v i j else .top
 | .mp id=>if id<m then .mp id else .top
 | .gl id=>if id<m then .gl id else .top
 | .sl id v off len=>if id<m then .sl id v off len else match H[id]? with
  |some (.arr _ _ ag es)=>if ag=v then .d (.list false ((es.drop off).take len))else .top
  |_=> .top
 | .agg _=> .top
 | .bq _=> .top
 | .fn f []=> .fn f []
 | .fn _ _=> .top
 |x=>x
def Dx(H:aa)(m:Nat):AV→AV
 | .agg cs=> .agg (cs.map (kn H m))
 | .fn f cs=> .fn f (cs.map (kn H m))
 |x=>kn H m x
def qd(H:aa)(m:Nat):AV→AV
 | .bq cs=> .bq (cs.map (Dx H m))
 |x=>Dx H m x
def gT(m:Nat):AV→Bool
 | .ptr id _ _ _=>decide (id<m)
 | .mp id=>decide (id<m)
 | .gl id=>decide (id<m)
 | .sl id _ _ _=>decide (id<m)
 | .agg _=>false
 | .bq _=>false
 | .fn _ cs=>cs.isEmpty
 |_=>true
def fc(m:Nat):AV→Bool
 | .agg cs=>cs.all (gT m)
 | .fn _ cs=>cs.all (gT m)
 |x=>gT m x
def aA.below(m:Nat):aA→Bool
 | .arr _ _ _ _=>true
 | .box _ _ _ _ cs=>cs.all (fc m)
 | .mp _ es=>es.all fun e=>fc m e.2
 | .dead _=>true
 | .iter m' _ _=>decide (m'<m)
 | .lp _ _=>false
inductive an (H0:aa):(Nat→AV)→aa→(Nat→AV)→aa→Prop
 |refl (s:Nat→AV) (H:aa):an H0 s H s H
 |xi (s:Nat→AV) (H:aa) (m:Nat) (hm:H0.length≤m) (hl:m≤H.length) (h:∀i o,i<m→H[i]?=some o→H0[i]?=some o∨o.below m=true):an H0 s H (fun t=>qd H m (s t)) (H.take m)
 |more (s:Nat→AV) (H:aa) (e:TypeId) (k:Nat) (hk:0<k):an H0 s H s (H++[.arr e k 0 []])
 |Em (s:Nat→AV) (H:aa) (t id:Nat) (e:TypeId) (k ag n:Nat) (ds:List D) (ho:H[id]?=some (.box e k ag n (ds.map AV.d))) (hs:s t= .ptr id ag 0 0):an H0 s H (fun u=>if u=t then .bW ds else s u) (H.set id (.arr e k (ag+1) []))
 |eg (s:Nat→AV) (H:aa) (id:Nat) (e0:TypeId) (k0 ag m:Nat) (cs:List AV) (j:Nat) (x:AV) (e:TypeId) (k:Nat) (hk:0<k) (ho:H[id]?=some (.box e0 k0 ag m cs)) (hj:cs[j]?=some x) (hx:isNone x=true):
   an H0 s H s (H.set id (.box e0 k0 ag m (cs.set j (.sl H.length 0 0 0)))++[.arr e k 0 []])
 |pY (s:Nat→AV) (H:aa) (id k0 ag m j id' ver' off len k:Nat) (e0 e:TypeId) (cs:List AV) (es:List (List D)) (ho:H[id]?=some (.box e0 k0 ag m cs)) (hj:cs[j]?=some (.sl id' ver' off len)) (ho':H[id']?=some (.arr e k ver' es)):
   an H0 s H s ((H.set id' (.arr e k (ver'+1) [])).set id (.box e0 k0 ag m (cs.set j (.d (.list false ((es.drop off).take len))))))
 |wu (s:Nat→AV) (H:aa) (id:Nat) (e:TypeId) (k ag:Nat) (es:List (List D)) (ho:H[id]?=some (.arr e k ag es)) (hne:es≠[]):an H0 s H s (H.set id (.box e k ag es.length (es.flatten.map AV.d)))
 |vc (s:Nat→AV) (H:aa) (id:Nat) (e:TypeId) (k ag:Nat) (es:List (List D)) (ho:H[id]?=some (.box e k ag es.length (es.flatten.map AV.d))) (hk:∀c∈es,c.length=k):an H0 s H s (H.set id (.arr e k ag es))
 |xa (s:Nat→AV) (H:aa) (t:Nat) (e:TypeId) (k ag:Nat) (hk:0<k) (h:isNone (s t)=true):an H0 s H (fun u=>if u=t then .sl H.length ag 0 0 else s u) (H++[.arr e k ag []])
 |imp (s s':Nat→AV) (H:aa) (h:∀φ N w u v,RA H φ N w (s u) v→RA H φ N w (s' u) v):an H0 s H s' H
 |AH (s:Nat→AV) (H:aa) (m:Nat) (hm:H0.length≤m) (hl:m≤H.length) (h:∀i o,i<m→H[i]?=some o→H0[i]?=some o∨zv m o):an H0 s H (fun t=>qd H m (s t)) (H.take m)
 |trans {s1 s2 s3:Nat→AV} {H1 H2 H3:aa} (h:an H0 s1 H1 s2 H2) (g:an H0 s2 H2 s3 H3):an H0 s1 H1 s3 H3
def AG:Code→Option Nat
 | .region id _ _=>some id
 | .seq x _=>AG x
 |_=>none
def c4(hint:Nat→Bool)(c:Code):Bool:=match AG c with|some r=>hint (r+1000000)|none=>false
def gK(n:Nat)(s:Nat→AV)(ps:List Tmp)(xs:List AV):Nat→AV:=(ps.zip xs).foldl (fun s p=>bl n s (some p.1) p.2) s
def cq(P:Program):(Nat→Bool)→Nat→aa→Code→aQ→(Nat→AV)→aa→Prop
 |_,_,_,.skip,Q,s,H=>Q .normal s H
 |_,_,_,.label _,Q,s,H=>Q .normal s H
 |hint,n,H0,.scope x,Q,s,H=>cq P hint n H0 x Q s H
 |hint,n,_,.region _ ops draw,Q,s,H=>if draw then P.follows .mixedOrders=true∧eN P hint n ops Q ops.size (Array.replicate ops.size false) s H else aM P hint n ops Q ops.toList s H
 |hint,n,H0,.seq x y,Q,s,H=>cq P hint n H0 x (fun e s' H'=>match e with| .normal=>(if c4 hint y=true then ∃s'' H'',an H0 s' H' s'' H''∧cq P hint n H0 y Q s'' H'' else cq P hint n H0 y Q s' H')|e=>Q e s' H') s H
 |hint,n,H0,.cond c x y,Q,s,H=>(match ai s c with| .d (.v (.bool b))=>if b=true then cq P hint n H0 x Q s H else cq P hint n H0 y Q s H|_=>False)
 |hint,n,H0,.block id x,Q,s,H=>cq P hint n H0 x (fun e s' H'=>match e with| .exit i=>if i=id then Q .normal s' H' else Q (.exit i) s' H'|e=>Q e s' H') s H
 |hint,n,H0,.loop x,Q,s,H=>∃(I:Nat→(Nat→AV)→aa→Prop) (m:Nat),(∃s' H',an H0 s H s' H'∧I m s' H')∧
   ∀m s H,I m s H→cq P hint n H0 x (fun e s' H'=>match e with| .normal=>∃s'' H'' m',an H0 s' H' s'' H''∧I m' s'' H''∧m'<m|e=>Q e s' H') s H
 |_,_,_,.exit id,Q,s,H=>Q (.exit id) s H
 |_,_,_,.ret,Q,s,H=>Q .ret s H
 |hint,n,H0,.rangeFunc g ps x y,Q,s,H=>hint 2000000=true∧∃(hint':Nat→Bool) (gf:FuncId) (caps:List AV) (xs:List (List AV)) (C:aa→Prop) (I:Nat→aa→Prop) (Ix:AX→aa→Prop) (s0:Nat→AV) (H1:aa),
   hint' 2000000=false∧an H0 s H s0 H1∧ai s0 g= .fn gf caps∧oe P gf caps C xs∧(∀v∈xs,v.length=ps.size∧∀u∈v,iG H1.length u)∧I 0 H1∧(∀k Hk,I k Hk→C Hk∧Hk.length=H1.length)∧
   (∀k (hk:k<xs.length) Hk,I k Hk→cq P hint' n Hk x (fun e s1 H2=>match e with
    | .normal=>cq P hint' n Hk y (fun e s2 H3=>∃s3 H4,an Hk s2 H3 s3 H4∧H4.length=H1.length∧(match e with| .normal=>I (k+1) H4| .panic _=>False|e=>Ix e H4)) s1 H2
    |_=>False) (gK n s0 ps.toList (xs[k])) Hk)∧
   (∀Hn,I xs.length Hn→Q .normal s0 Hn)∧∀e Hx,Ix e Hx→Q e s0 Hx
 |_,_,_,_,_,_,_=>False
structure DS where
 marks:Bool
 l:List Deferred
def Marks(b0:Nat)(H:aa)(φ:aI)(w:World):List Deferred→Prop
 |[]=>True
 |d::ds=>(∃D,b0≤D∧d={target:= .collected D,args:=#[]}∧w.heap[D]?=some (.deferred (some []))∧(∀id c,id<H.length→φ id≠some (D,c))∧∀d'∈ds,d'≠d)∧Marks b0 H φ w ds
theorem Marks.mono{b0:Nat}{H H':aa}{φ φ':aI}{w w':World}(h:∀D,D<w.heap.size→b0≤D→w.heap[D]?=some (.deferred (some []))→(∀id c,id<H.length→φ id≠some (D,c))→w'.heap[D]?=w.heap[D]?∧∀id c,id<H'.length→φ' id≠some (D,c)):
  ∀{ds:List Deferred},Marks b0 H φ w ds→Marks b0 H' φ' w' ds
 |[],_=>trivial
 |d::ds,⟨⟨D,h0,h1,h2,h3,h4⟩,h5⟩=>by
  obtain⟨g1,g2⟩:=h D (Array.getElem?_eq_some_iff.1 h2).1 h0 h2 h3
  exact⟨⟨D,h0,h1,g1.trans h2,g2,h4⟩,Marks.mono h h5⟩
def gW(ds:DS)(b0:Nat)(H:aa)(φ:aI)(w:World)(l:List Deferred):Prop:=∃ms,l=ms++ds.l∧(ds.marks=false→ms=[])∧Marks b0 H φ w ms
theorem gW.refl{ds:DS}{b0:Nat}{H:aa}{φ:aI}{w:World}:gW ds b0 H φ w ds.l:=⟨[],rfl,fun _=>rfl,trivial⟩
theorem gW.eq{l l':List Deferred}{b0:Nat}{H:aa}{φ:aI}{w:World}(h:gW ⟨false,l⟩ b0 H φ w l'):l'=l:=by
 obtain⟨ms,h1,h2,_⟩:=h
 rw[h1,h2 rfl];rfl
theorem gW.mono{ds:DS}{b0:Nat}{H H':aa}{φ φ':aI}{w w':World}(h:∀D,D<w.heap.size→b0≤D→w.heap[D]?=some (.deferred (some []))→(∀id c,id<H.length→φ id≠some (D,c))→w'.heap[D]?=w.heap[D]?∧∀id c,id<H'.length→φ' id≠some (D,c))
  {l:List Deferred} (hl:gW ds b0 H φ w l):gW ds b0 H' φ' w' l:=by
 obtain⟨ms,h1,h2,h3⟩:=hl
 exact⟨ms,h1,h2,h3.mono h⟩
theorem gW.since{ds:DS}{b0:Nat}{H H':aa}{φ φ':aI}{N N':Addr→Prop}{w w':World}(hS:ar H φ N w H' φ' N' w'){l:List Deferred}(hl:gW ds b0 H φ w l):gW ds b0 H' φ' w' l:=
 hl.mono fun D hD _ _ hn=>⟨hS.cw D hD hn,fun id c hid hp=>by
  obtain⟨id0,c0,h1,h2⟩:=hS.own id D c hid hp hD
  exact hn id0 c0 h1 h2⟩
structure Inv (H0:aa) (φ0:aI) (N0:Addr→Prop) (w0:World) (n:Nat) (ds:DS) (s:Nat→AV) (H:aa) (φ:aI) (N:Addr→Prop) (a:Act) (w:World):Prop where
 rel:Rel H φ N w
 tmps:bF H φ N w s a
 since:ar H0 φ0 N0 w0 H φ N w
 size:a.tmps.size=n
 defers:gW ds w0.heap.size H φ w a.defers
section
variable {P:Program} {H0:aa} {φ0:aI} {N0:Addr→Prop} {w0:World} {n:Nat} {ds:DS} {hint:Nat→Bool}
def jf(H0:aa)(φ0:aI)(N0:Addr→Prop)(w0:World)(n:Nat)(ds:DS)(Q:aQ):Exit→Act→World→Prop:=fun e a w=>
 ∃x s H φ N,e=AX.Ar x∧Q x s H∧Inv H0 φ0 N0 w0 n ds s H φ N a w
theorem bF.put{H:aa}{φ:aI}{N:Addr→Prop}{w:World}{s:Nat→AV}{a:Act}(hT:bF H φ N w s a){d:Option Tmp}{r:AV}{x:Value}(hr:RA H φ N w r x)(hs:a.tmps.size=n):
  bF H φ N w (bl n s d r) (a.put d x):=by
 intro t
 cases d with
 |none=>exact hT t
 |some d=>
  simp only[bl,Act.put]
  by_cases h1:t=d
  ·subst h1
   rw[if_pos rfl]
   by_cases h2:t<n
   ·rw[if_pos h2]
    simpa[Array.getD,Array.size_setIfInBounds,hs,h2]using hr
   ·rw[if_neg h2];exact .top _
  ·rw[if_neg h1]
   have:=hT t
   by_cases h2:t<a.tmps.size
   ·simpa[Array.getD,Array.size_setIfInBounds,h2,Array.getElem_setIfInBounds_ne _ (Ne.symm h1)]using this
   ·simpa[Array.getD,Array.size_setIfInBounds,h2]using this
theorem zU(a:Act)(d:Option Tmp)(v:Value):(a.put d v).tmps.size=a.tmps.size:=by cases d<;>simp[Act.put]
theorem put_defers(a:Act)(d:Option Tmp)(v:Value):(a.put d v).defers=a.defers:=by cases d<;>rfl
theorem Inv.put{s:Nat→AV}{H H':aa}{φ φ':aI}{N N':Addr→Prop}{a:Act}{w w':World}(h:Inv H0 φ0 N0 w0 n ds s H φ N a w)(hR:Rel H' φ' N' w')(hS:ar H φ N w H' φ' N' w'){r:AV}{x:Value}(hr:RA H' φ' N' w' r x)(d:Option Tmp):
  Inv H0 φ0 N0 w0 n ds (bl n s d r) H' φ' N' (a.put d x) w' where
 rel:=hR
 tmps:=bF.put (fun t=>(h.tmps t).since h.rel hS) hr h.size
 since:=h.since.trans hS
 size:=(zU _ _ _).trans h.size
 defers:=by rw[put_defers];exact h.defers.since hS
def dd(F:Fence):Prop:=F=Fence.wide∨∃l,F=Fence.wide.inRound l
theorem dd.fn{F:Fence}(h:dd F)(f:FuncId):F.fn f:=by
 rcases h with rfl|⟨l,rfl⟩<;>exact trivial
theorem dd.none{F:Fence}(h:dd F):¬F.depth.isSome=true:=by
 rcases h with rfl|⟨l,rfl⟩<;>(intro h;cases h)
theorem dd.calls{F:Fence}(h:dd F){n:Nat}{f:FuncId}{args:Array Value}{w:World}{R:Ending→World→Prop}(hc:Calls P f args w R):CallsIn F n P f args w R:=by
 rcases h with rfl|⟨l,rfl⟩<;>exact callsIn_wide.2 hc
theorem dd.CG{F:Fence}(h:dd F){n:Nat}{l:Nat}{f:FuncId}{tmps:Array Value}{x y:Code}{w:World}{R:Ending→World→Prop}(hc:RoundIn Fence.wide 0 P l f tmps x y w R):RoundIn F n P l f tmps x y w R:=by
 have:RoundIn Fence.wide n P l f tmps x y w R:=⟨hc.1,fun c cs _=>hc.2 c cs (room_wide _)⟩
 rcases h with rfl|⟨l,rfl⟩<;>exact this
variable {F:Fence}
theorem AS(hF:dd F){s:Nat→AV}{H:aa}{φ:aI}{N:Addr→Prop}{a:Act}{w:World}{o:Oper}(hI:Inv H0 φ0 N0 w0 n ds s H φ N a w){K:AV→aa→Prop}{KP:Value→aa→Prop}(h:aB P hint s H o K KP)
  {next:Act→World→Prop} {Q:Exit→Act→World→Prop}
  (hn:∀r H' φ' N' x w',K r H'→Rel H' φ' N' w'→ar H φ N w H' φ' N' w'→RA H' φ' N' w' r x→next (a.put o.dst x) w')
  (hp:∀v H' φ' N' w',KP v H'→Rel H' φ' N' w'→ar H φ N w H' φ' N' w'→Q (.panic [{v:=v,recovered:=false}]) a w'):o.wpIn F 0 P a w next Q:=by
 have plain:(∀c,o.op≠ .defer c)→∀r H',K r H'∧bQ P o a w H φ N r H'→o.wpIn F 0 P a w next Q:=by
  rintro hd r H' ⟨hK,x,w',φ',N',hrun,hR,hS,hr⟩
  refine⟨fun f _=>hF.fn f,?_⟩
  rw[Oper.semAt_eq _ _ _ hd]
  rcases hrun with hrun|⟨hrun,rfl⟩
  ·rw[hrun];exact hn r H' φ' N' x w' hK hR hS hr
  ·rw[hrun];exact hn r H' φ' N' undef w' hK hR hS hr
 unfold aB at h
 split at h
 ·rename_i x ho
  split at h
  ·rename_i t u hx
   have hv:=bz (aq hI.tmps x) hx
   refine⟨fun f _=>hF.fn f,?_⟩
   rw[Oper.semAt_eq _ _ _ fun c e=>by rw[ho]at e;cases e]
   have hrun:(execOp a.eval o).run P w= .halt (.panic (.iface t u)) w:=by simp[execOp,ho,hv,Instr.panic,goPanic]
   rw[hrun]
   exact hp _ H φ N w h hI.rel ar.refl
  ·exact h.elim
 ·rename_i c ho
  split at h
  ·rename_i f hc
   split at h
   ·rename_i g caps hf
    obtain⟨res,H',hD,h⟩:=h
    have hfv:=aq hI.tmps f
    rw[hf]at hfv
    generalize hfe:a.eval f=fv at hfv
    cases hfv with
    |fn _ _ vs hl hh=>
    have hargs:oG H φ N w (c.args.toList.map (ai s)++caps) (c.args.map a.eval++vs):=by
     refine⟨by simp[hl],fun i h1 h2=>?_⟩
     by_cases hi:i<c.args.size
     ·rw[List.getElem_append_left (by simpa using hi),Array.getElem_append_left (by simpa using hi)]
      simp only[List.getElem_map,Array.getElem_map,Array.getElem_toList]
      exact aq hI.tmps _
     ·rw[List.getElem_append_right (by simpa using hi),Array.getElem_append_right (by simpa using hi)]
      simp only[List.length_map,Array.length_toList,Array.size_map]
      exact hh _ (by simp at h1;omega) (by simp at h2;omega)
    have hcall:=hD φ N w _ hI.rel hargs
    have hex:∀r,(callFunc g (c.args.map a.eval++vs)).run P w=r→(execOp a.eval o).run P w=r:=by
     intro r hr
     simp[execOp,ho,resolve,hc,hfe,Deferred.ofValue,invoke,hr]
    refine⟨fun f _=>hF.fn f,?_⟩
    rw[Oper.semAt_eq _ _ _ fun c e=>by rw[ho]at e;cases e]
    rcases hcall with⟨hrun,hC⟩|⟨v,w',hrun,φ',N',hR,hS,hE⟩
    ·rw[hex _ hrun]
     refine⟨fun h=>absurd h hF.none,hF.calls (Calls.mono hC ?_)⟩
     rintro e w' ⟨φ',N',hR,hS,hE⟩
     cases res with
     |ok r=>
      cases e with
      |returned v=>exact hn r H' φ' N' v w' h hR hS hE
      |panicked ch=>exact hE.elim
      |outgrown=>exact hE.elim
     |panic v=>
      cases e with
      |returned _=>exact hE.elim
      |panicked ch=>
       cases ch with
       |nil=>exact hE.elim
       |cons p ps=>
        cases ps with
        |nil=>
         have:p={v:=v,recovered:=false}:=hE
         subst this
         exact hp v H' φ' N' w' h hR hS
        |cons _ _=>exact hE.elim
      |outgrown=>exact hE.elim
    ·rw[hex _ hrun]
     cases res with
     |ok r=>exact hn r H' φ' N' v w' h hR hS hE
     |panic _=>exact hE.elim
   ·rename_i id hf
    obtain⟨_,R,⟨⟨r0,s0,hlp⟩,hY⟩,hK⟩:=h
    have hfv:=aq hI.tmps f
    rw[hf]at hfv
    generalize hfe:a.eval f=fv at hfv
    cases hfv with
    |gl _ B o' ho' hp'=>
    rw[hlp]at ho';cases ho'
    obtain⟨c0,hp0⟩:=hp' rfl
    have hargs:oG H φ N w (c.args.toList.map (ai s)) (c.args.map a.eval):=by
     refine⟨by simp,fun i h1 h2=>?_⟩
     simp only[List.getElem_map,Array.getElem_map,Array.getElem_toList]
     exact aq hI.tmps _
    obtain⟨fn,tmps,x,y,hrun,hRd⟩:=hY φ N w _ B c0 hI.rel hargs hp0
    refine⟨fun f _=>hF.fn f,?_⟩
    rw[Oper.semAt_eq _ _ _ fun c e=>by rw[ho]at e;cases e]
    have hex:(execOp a.eval o).run P w= .ok (.round B fn tmps x y) w:=by
     simp[execOp,ho,resolve,hc,hfe,Deferred.ofValue,invoke,hrun]
    rw[hex]
    refine⟨fun h=>absurd h hF.none,hF.CG (RoundIn.mono hRd ?_)⟩
    rintro e w' ⟨b,H',φ',N',rfl,hb,hR,hS⟩
    exact hn _ H' φ' N' _ w' (hK b H' hb) hR hS (.d (.v _ rfl))
   ·exact h.elim
  ·rename_i b hc
   obtain⟨r,H',hK,hok⟩:=mA hI.rel hI.tmps ho hc h
   exact plain (fun c e=>by rw[ho]at e;cases e) r H' ⟨hK,hok⟩
  ·exact h.elim
 ·have hd:∀c,o.op≠ .defer c:=fun c e=>by
   rw[e]at h
   exact h
  obtain⟨r,H',hK,hok⟩:=DO hI.rel hI.tmps h
  exact plain hd r H' ⟨hK,hok⟩
theorem rZ(hF:dd F){ops:Array Oper}{Q:aQ}{s:Nat→AV}{H:aa}{φ:aI}{N:Addr→Prop}{a:Act}{w:World}{o:Oper}(hI:Inv H0 φ0 N0 w0 n ds s H φ N a w){K:(Nat→AV)→aa→Prop}(h:cy P hint n ops Q o K s H)
  {next:Act→World→Prop} (hn:∀s' H' φ' N' a' w',K s' H'→Inv H0 φ0 N0 w0 n ds s' H' φ' N' a' w'→next a' w'):
  if Region.wanted o (yielded ops a.tmps)then o.wpIn F 0 P a w next (jf H0 φ0 N0 w0 n ds Q)else(∀f,o.about P w a.eval=some f→F.fn f)∧next (a.put o.dst undef) w:=by
 have step:aB P hint s H o (fun r H'=>K (bl n s o.dst r) H') (fun v H'=>Q (.panic v) s H')→o.wpIn F 0 P a w next (jf H0 φ0 N0 w0 n ds Q):=fun h=>
  AS hF hI h (fun r H' φ' N' x w' hK hR hS hr=>hn _ _ φ' N' _ _ hK (hI.put hR hS hr _))
   (fun v H' φ' N' w' hq hR hS=>⟨.panic v,s,H',φ',N',rfl,hq,hR,fun t=>(hI.tmps t).since hI.rel hS,hI.since.trans hS,hI.size,hI.defers.since hS⟩)
 unfold cy at h
 split at h
 ·rename_i hg
  have:Region.wanted o (yielded ops a.tmps)=true:=by simp[Region.wanted,hg]
  rw[if_pos this]
  exact step h
 ·rename_i j want hg
  split at h
  ·rename_i b hb
   have hw:Region.wanted o (yielded ops a.tmps)=b:=by
    unfold eH at hb
    split at hb
    ·rename_i d hd
     split at hb
     ·rename_i hdn
      have:=hI.tmps d
      have hlt:d<a.tmps.size:=by rw[hI.size];exact hdn
      simp only[Array.getD,hlt,dif_pos]at this
      have this:RA H φ N w (s d) a.tmps[d]:=this
      unfold Gi at hb
      split at hb
      ·rename_i b' hs
       cases hb
       rw[hs]at this
       have hv:=this.closed
       have hv':a.tmps[d]= .bool b':=hv
       simp[Region.wanted,hg,yielded,hd,hlt,hv']
      ·rename_i hs
       cases hb
       rw[hs]at this
       generalize hx:a.tmps[d]=x at this
       cases this with
       |bq cs vs hl h=>
        simp[Region.wanted,hg,yielded,hd,hlt,hx]
      ·cases hb
     ·cases hb
    ·cases hb
   cases b with
   |true=>
    rw[if_pos rfl]at h
    rw[if_pos hw]
    exact step h
   |false=>
    rw[if_neg (by simp)]at h
    rw[if_neg (by simp[hw])]
    exact⟨fun f _=>hF.fn f,hn _ _ φ N _ _ h (hI.put hI.rel ar.refl (.bq [] #[] rfl fun i h=>by simp at h) _)⟩
  ·exact h.elim
theorem m7(hF:dd F){ops:Array Oper}{Q:aQ}:∀(l:List Oper) (k:Nat),(∀j,l[j]?=ops[k+j]?)→∀{s:Nat→AV} {H:aa} {φ:aI} {N:Addr→Prop} {a:Act} {w:World},Inv H0 φ0 N0 w0 n ds s H φ N a w→
  aM P hint n ops Q l s H→wpOpsIn F 0 P ops (jf H0 φ0 N0 w0 n ds Q) (List.range' k l.length) a w
 |[],k,hl,s,H,φ,N,a,w,hI,h=>⟨.normal,s,H,φ,N,rfl,h,hI⟩
 |o::rest,k,hl,s,H,φ,N,a,w,hI,h=>by
  have h0:ops[k]?=some o:=by simpa using(hl 0).symm
  simp only[List.length_cons,List.range'_succ]
  rw[wpOpsIn_cons]
  unfold wpOpIn
  simp only[h0]
  exact rZ hF hI h fun s' H' φ' N' a' w' hK hI'=>m7 hF rest (k+1) (fun j=>by have:=hl (j+1);rw[List.getElem?_cons_succ]at this;rw[this];congr 1;omega) hI' hK
theorem lh(hF:dd F){ops:Array Oper}{Q:aQ}:∀(fuel:Nat) (listed:Array Bool) {s:Nat→AV} {H:aa} {φ:aI} {N:Addr→Prop} {a:Act} {w:World},Inv H0 φ0 N0 w0 n ds s H φ N a w→
  eN P hint n ops Q fuel listed s H→wpAnyIn F 0 P .any ops (jf H0 φ0 N0 w0 n ds Q) fuel listed a w
 |0,listed,s,H,φ,N,a,w,hI,h=>⟨h.1,.normal,s,H,φ,N,rfl,h.2,hI⟩
 |fuel+1,listed,s,H,φ,N,a,w,hI,h=>by
  refine⟨fun hr=>⟨.normal,s,H,φ,N,rfl,h.1 hr,hI⟩,fun i hi=>?_⟩
  have hi':=h.2 i hi
  unfold wpOpIn
  split at hi'
  ·rename_i hop
   simp only[hop]
   exact lh hF fuel _ hI hi'
  ·rename_i o hop
   simp only[hop]
   exact rZ hF hI hi' fun s' H' φ' N' a' w' hK hI'=>lh hF fuel _ hI' hK
theorem iG.mono{m m':Nat}{x:AV}(h:iG m x)(hm:m≤m'):iG m' x:=by
 induction h with
 |top=>exact .top
 |d=>exact .d _
 |cU=>exact .cU
 |ptr _ _ _ _ h=>exact .ptr _ _ _ _ (by omega)
 |bW=>exact .bW _
 |sl _ _ _ _ h=>exact .sl _ _ _ _ (by omega)
 |agg cs _ ih=>exact .agg cs ih
 |bq cs _ ih=>exact .bq cs ih
 |fn f cs _ ih=>exact .fn f cs ih
 |mp _ h=>exact .mp _ (by omega)
 |gl _ h=>exact .gl _ (by omega)
theorem RA.bel{H:aa}{φ:aI}{N:Addr→Prop}{w:World}{x:AV}{v:Value}(h:RA H φ N w x v):iG H.length x:=by
 induction h with
 |top=>exact .top
 |d=>exact .d _
 |cU=>exact .cU
 |ptr id ag i j A o ho=>exact .ptr _ _ _ _ (al ho)
 |bW=>exact .bW _
 |sl id ag off len A l m o ho=>exact .sl _ _ _ _ (al ho)
 |agg cs vs hl _ ih=>exact .agg cs fun i hi=>ih i hi (by omega)
 |bq cs vs hl _ ih=>exact .bq cs fun i hi=>ih i hi (by omega)
 |fn f cs vs hl _ ih=>exact .fn f cs fun i hi=>ih i hi (by omega)
 |mp id B c kk es ho=>exact .mp _ (al ho)
 |gl id B o ho=>exact .gl _ (al ho)
theorem DT{m:Nat}{x:AV}(h:gT m x=true):iG m x:=by
 cases x with
 |top=>exact .top
 |d=>exact .d _
 |cU=>exact .cU
 |ptr id _ _ _=>exact .ptr _ _ _ _ (by simpa[gT]using h)
 |bW=>exact .bW _
 |sl id _ _ _=>exact .sl _ _ _ _ (by simpa[gT]using h)
 |agg=>cases h
 |bq=>cases h
 |fn f cs=>
  have:cs=[]:=by simpa[gT]using h
  subst this
  exact .fn f [] fun i hi=>by simp at hi
 |mp id=>exact .mp _ (by simpa[gT]using h)
 |gl id=>exact .gl _ (by simpa[gT]using h)
theorem CY{m:Nat}{x:AV}(h:fc m x=true):iG m x:=by
 cases x with
 |agg cs=>
  simp only[fc,List.all_eq_true]at h
  exact .agg cs fun i hi=>DT (h _ (List.getElem_mem hi))
 |fn f cs=>
  simp only[fc,List.all_eq_true]at h
  exact .fn f cs fun i hi=>DT (h _ (List.getElem_mem hi))
 |_=>exact DT h
def fZ(H:aa)(φ:aI)(m:Nat)(N:Addr→Prop):Addr→Prop:=fun a=>
 N a∨∃id B c e k ag es,m≤id∧H[id]?=some (.arr e k ag es)∧φ id=some (B,c)∧a.block=B∧a.spot=none∧a.off<es.length* k
theorem fC{H:aa}{m id:Nat}(h:id<m):(H.take m)[id]?=H[id]?:=by rw[List.getElem?_take,if_pos h]
theorem RD.frozen{H:aa}{φ:aI}{m:Nat}{N:Addr→Prop}{w:World}{x:D}{v:Value}(h:RD N w x v):RD (fZ H φ m N) w x v:=h.mono (fun _ h=> .inl h) fun _ _ _ h=>h
theorem RA.take{H:aa}{φ:aI}{N:Addr→Prop}{w:World}{x:AV}{v:Value}(h:RA H φ N w x v){m:Nat}(hb:iG m x):RA (H.take m) φ (fZ H φ m N) w x v:=by
 induction h with
 |top=>exact .top _
 |d hd=>exact .d hd.frozen
 |cU=>exact .cU _
 |ptr id ag i j A o ho hv hp=>cases hb with|ptr _ _ _ _ h=>exact .ptr _ _ _ _ _ o (by rw[fC h];exact ho) hv hp
 |bW cs ad c hc hd=>exact .bW cs ad c (fun t ht=>⟨.inl (hc t ht).1,(hc t ht).2⟩) fun t ht=>(hd t ht).frozen
 |sl id ag off len A l m' o ho hv hp=>cases hb with|sl _ _ _ _ h=>exact .sl _ _ _ _ _ _ _ o (by rw[fC h];exact ho) hv hp
 |agg cs vs hl _ ih=>cases hb with|agg _ hb=>exact .agg cs vs hl fun i h1 h2=>ih i h1 h2 (hb i h1)
 |bq cs vs hl _ ih=>cases hb with|bq _ hb=>exact .bq cs vs hl fun i h1 h2=>ih i h1 h2 (hb i h1)
 |fn f cs vs hl _ ih=>cases hb with|fn _ _ hb=>exact .fn f cs vs hl fun i h1 h2=>ih i h1 h2 (hb i h1)
 |mp id B c kk es ho hp=>cases hb with|mp _ h=>exact .mp id B c kk es (by rw[fC h];exact ho) hp
 |gl id B o ho hp=>cases hb with|gl _ h=>exact .gl id B o (by rw[fC h];exact ho) hp
theorem qi{H:aa}{φ:aI}{N:Addr→Prop}{w:World}(hR:Rel H φ N w)(m:Nat){x:AV}{v:Value}(h:RA H φ N w x v):RA (H.take m) φ (fZ H φ m N) w (kn H m x) v:=by
 cases x with
 |ptr id ag i j=>
  simp only[kn]
  split
  ·rename_i hlt;exact h.take (.ptr _ _ _ _ hlt)
  ·exact .top _
 |mp id=>
  simp only[kn]
  split
  ·rename_i hlt;exact h.take (.mp _ hlt)
  ·exact .top _
 |gl id=>
  simp only[kn]
  split
  ·rename_i hlt;exact h.take (.gl _ hlt)
  ·exact .top _
 |sl id ag off len=>
  simp only[kn]
  split
  ·rename_i hlt;exact h.take (.sl _ _ _ _ hlt)
  ·rename_i hge
   split
   ·rename_i e k v' es hob
    split
    ·rename_i hv
     subst hv
     cases h with
     |sl _ _ _ _ A l m' o ho hv hp=>
     rw[hob]at ho;cases ho
     obtain⟨rfl,h1,h2⟩:=hp rfl
     simp only[aA.len]at h1
     by_cases hl0:l=0
     ·subst hl0
      simp only[List.take_zero]
      exact .d (.nil _ _ (by rcases h2 with⟨_,_,_,rfl⟩|⟨B,c,_,_,rfl,_⟩;exact fun _=>rfl;exact fun h=>by cases h))
     rcases h2 with⟨_,h3,_⟩|⟨B,c,h3,h4,rfl,rfl⟩
     ·omega
     have hobj:=hR.obj id _ hob
     cases hobj with
     |arr _ _ _ _ hk hes hbl=>
     rcases hbl with⟨g0,_⟩|⟨B',cap,cur,g1,g2,g3,g4,g5,g6⟩
     ·rw[g0]at h3;cases h3
     have hφ:=h3
     obtain⟨e1,e2⟩:=Prod.mk.inj (Option.some.inj (g1.symm.trans h3))
     subst e1 e2
     have hel:((es.drop off).take l).length=l:=by simp;omega
     have key:=RD.list (N:=fZ H φ m N) (w:=w) false ((es.drop off).take l) ⟨B',off* k,none⟩ (cap-off) k (fun i j=>cur.getD ((off+i)* k+j) undef) (by rw[hel];omega)
      (fun e he=>hes e (List.mem_of_mem_drop (List.mem_of_mem_take he))) (fun i j hi hj=>by
       rw[hel]at hi
       have hlt:(off+i)* k+j<es.length* k:=cE hj (by omega)
       have hlt2:(off+i)* k+j<cur.size:=by have:=Nat.mul_le_mul_right k g3;omega
       have hpos:off* k+(i* k+j)=(off+i)* k+j:=by rw[Nat.add_mul];omega
       rw[add_plain,hpos]
       refine⟨.inr ⟨id,B',cap,e,k,v',es,by omega,hob,hφ,rfl,rfl,hlt⟩,?_⟩
       simp[World.cell?,g2,Array.getD,hlt2]) (fun i hi j hj=>by
       rw[hel]at hi
       simp only[List.getElem_take,List.getElem_drop]at hj⊢
       obtain⟨u,hu,hd⟩:=g6 (off+i) (by omega) j hj
       have hget:cur.getD ((off+i)* k+j) undef=u:=by
        rw[Array.getD_eq_getD_getElem?,hu];rfl
       simp only[hget]
       exact hd.frozen)
     rw[hel]at key
     exact .d key
    ·exact .top _
   ·exact .top _
 |agg=>exact .top _
 |bq=>exact .top _
 |fn f cs=>
  cases cs with
  |nil=>exact h.take (.fn f [] fun i hi=>by simp at hi)
  |cons _ _=>exact .top _
 |top=>exact .top _
 |d=>exact h.take (.d _)
 |cU=>exact h.take .cU
 |bW=>exact h.take (.bW _)
theorem wW{H:aa}{φ:aI}{N:Addr→Prop}{w:World}(hR:Rel H φ N w)(m:Nat){x:AV}{v:Value}(h:RA H φ N w x v):RA (H.take m) φ (fZ H φ m N) w (Dx H m x) v:=by
 cases x with
 |agg cs=>
  cases h with
  |agg _ vs hl hh=>exact .agg _ vs (by simpa using hl) fun i h1 h2=>by simpa using qi hR m (hh i (by simpa using h1) h2)
 |fn f cs=>
  cases h with
  |fn _ _ vs hl hh=>exact .fn f _ vs (by simpa using hl) fun i h1 h2=>by simpa using qi hR m (hh i (by simpa using h1) h2)
 |_=>exact qi hR m h
theorem A7{H:aa}{φ:aI}{N:Addr→Prop}{w:World}(hR:Rel H φ N w)(m:Nat){x:AV}{v:Value}(h:RA H φ N w x v):RA (H.take m) φ (fZ H φ m N) w (qd H m x) v:=by
 cases x with
 |bq cs=>
  cases h with
  |bq _ vs hl hh=>exact .bq _ vs (by simpa using hl) fun i h1 h2=>by simpa using wW hR m (hh i (by simpa using h1) h2)
 |_=>exact wW hR m h
theorem Rel.take{H:aa}{φ:aI}{N:Addr→Prop}{w:World}(hR:Rel H φ N w)(m:Nat)(hb:∀i o,i<m→H[i]?=some o→(∀e k ag n cs,o= .box e k ag n cs→∀c∈cs,iG m c)∧(∀kk es,o= .mp kk es→∀e∈es,iG m e.2)∧(∀m' since seen,o= .iter m' since seen→m'<m)∧∀r s,o= .lp r s→∀t,iG m (s t)):
  Rel (H.take m) φ (fZ H φ m N) w where
 obj id o h:=by
  have hlt:id<m:=by have:=al h;simp at this;omega
  rw[fC hlt]at h
  obtain⟨hb1,hb2,hb3,hb4⟩:=hb id o hlt h
  cases hR.obj id o h with
  |arr e k ag es hk hes hh=>
   refine .arr e k ag es hk hes ?_
   rcases hh with hh|⟨B,cap,cur,g1,g2,g3,g4,g5,g6⟩
   ·exact .inl hh
   ·refine .inr ⟨B,cap,cur,g1,g2,g3,g4,g5,fun i hi j hj=>?_⟩
    obtain⟨c,hc,hd⟩:=g6 i hi j hj
    exact⟨c,hc,hd.frozen⟩
  |box e k ag n cs B cap cur hk hn hp hbk hc hm hs hh=>
   refine .box e k ag n cs B cap cur hk hn hp hbk hc hm hs fun j hj=>?_
   obtain⟨c,hc,hd⟩:=hh j hj
   exact⟨c,hc,hd.take (hb1 e k ag n cs rfl _ (List.getElem_mem hj))⟩
  |mp kk es B cap ents clock hp hbk hs hck hbn hh=>exact .mp kk es B cap ents clock hp hbk hs hck hbn fun j hj hj2=>⟨(hh j hj hj2).1,(hh j hj hj2).2.take (hb2 kk es rfl _ (List.getElem_mem hj))⟩
  |dead ag hp=>exact .dead ag hp
  |iter m' since seen B cap bm cm kk es hp hbk hm hpm=>exact .iter m' since seen B cap bm cm kk es hp hbk (by rw[fC (hb3 m' since seen rfl)];exact hm) hpm
  |lp r s B cap hp hbk hh=>exact .lp r s B cap hp hbk fun t=>(hh t).take (hb4 r s rfl t)
 inj i j B c c' hi hj h1 h2:=hR.inj i j B c c' (by simp at hi;omega) (by simp at hj;omega) h1 h2
 live a ha:=by
  rcases ha with ha|⟨id,B,c,e,k,ag,es,hid,ho,hp,h1,h2,h3⟩
  ·exact hR.live a ha
  ·cases hR.obj id _ ho with
   |arr _ _ _ _ hk hes hh=>
   rcases hh with⟨g0,_⟩|⟨B',cap,cur,g1,g2,g3,g4,g5,g6⟩
   ·rw[g0]at hp;cases hp
   ·rw[g1]at hp;cases hp
    have hlt:a.off<cur.size:=by have:=Nat.mul_le_mul_right k g3;omega
    exact⟨cur[a.off],by simp[World.cell?,h1,g2,h2,hlt]⟩
 apart a id B c ha hid hp:=by
  simp at hid
  rcases ha with ha|⟨id',B',c',e,k,ag,es,hid',ho,hp',h1,h2,h3⟩
  ·exact hR.apart a id B c ha (by omega) hp
  ·intro he
   have:=hR.inj id id' B c c' (by omega) (al ho) hp (by rw[←he,h1];exact hp')
   omega
theorem ar.take{H:aa}{φ:aI}{N:Addr→Prop}{w:World}(h:ar H0 φ0 N0 w0 H φ N w)(m:Nat)(hm:H0.length≤m)(hl:m≤H.length):ar H0 φ0 N0 w0 (H.take m) φ (fZ H φ m N) w where
 len:=by simp;omega
 os:=h.os
 tape:=h.tape
 output:=h.output
 size:=h.size
 cw:=h.cw
 own id B c hid:=h.own id B c (by simp at hid;omega)
 mono a ha:= .inl (h.mono a ha)
 bI id o ho:=by
  obtain⟨o',h1,h2⟩:=h.bI id o ho
  exact⟨o',by rw[fC (by have:=al ho;omega)];exact h1,h2⟩
 mO a ha:=by
  rcases ha with ha|⟨id,B,c,_,_,_,_,_,ho,hp,h1,_⟩
  ·exact h.mO a ha
  ·rcases Nat.lt_or_ge B w0.heap.size with hl|hl
   ·obtain⟨id0,c0,h2,h3⟩:=h.own id B c (al ho) hp hl
    exact .inr (.inr ⟨id0,c0,h2,by rw[h1];exact h3⟩)
   ·exact .inr (.inl (by omega))
theorem an.ok{s s':Nat→AV}{H H':aa}(hW:an H0 s H s' H')(hR0:Rel H0 φ0 N0 w0):∀{φ:aI} {N:Addr→Prop} {a:Act} {w:World},Inv H0 φ0 N0 w0 n ds s H φ N a w→∃φ' N',Inv H0 φ0 N0 w0 n ds s' H' φ' N' a w:=by
 induction hW with
 |refl=>exact fun h=>⟨_,_,h⟩
 |xi s H m hm hl hb=>
  intro φ N a w hI
  refine⟨φ,fZ H φ m N,hI.rel.take m fun i o hi ho=>?_,fun t=>A7 hI.rel m (hI.tmps t),hI.since.take m hm hl,hI.size,hI.defers.mono fun D _ _ _ hn=>⟨rfl,fun id c hid=>hn id c (by simp at hid;omega)⟩⟩
  rcases hb i o hi ho with h0|h0
  ·have hob:=hR0.obj i o h0
   refine⟨?_,?_,?_,?_⟩
   ·rintro e k ag n cs rfl c hc
    cases hob with
    |box _ _ _ _ _ B cap cur hk hn hp hbk hc' hm' hs hh=>
    obtain⟨j,hj,rfl⟩:=List.mem_iff_getElem.1 hc
    obtain⟨u,_,hu⟩:=hh j hj
    exact hu.bel.mono hm
   ·rintro kk es rfl e he
    cases hob with
    |mp _ _ B cap ents clock hp hbk hs hck hbn hh=>
    obtain⟨j,hj,rfl⟩:=List.mem_iff_getElem.1 he
    exact(hh j hj (by omega)).2.bel.mono hm
   ·rintro m' since seen rfl
    cases hob with
    |iter _ _ _ B cap bm cm kk es hp hbk hmm hpm=>exact Nat.lt_of_lt_of_le (al hmm) hm
   ·rintro r s rfl t
    cases hob with
    |lp _ _ B cap hp hbk hh=>exact(hh t).bel.mono hm
  ·refine⟨?_,?_,?_,?_⟩
   ·rintro e k ag n cs rfl c hc
    simp only[aA.below,List.all_eq_true]at h0
    exact CY (h0 c hc)
   ·rintro kk es rfl e he
    simp only[aA.below,List.all_eq_true]at h0
    exact CY (h0 e he)
   ·rintro m' since seen rfl
    simpa[aA.below]using h0
   ·rintro r s rfl
    simp[aA.below]at h0
 |AH s H m hm hl hb=>
  intro φ N a w hI
  refine⟨φ,fZ H φ m N,hI.rel.take m fun i o hi ho=>?_,fun t=>A7 hI.rel m (hI.tmps t),hI.since.take m hm hl,hI.size,hI.defers.mono fun D _ _ _ hn=>⟨rfl,fun id c hid=>hn id c (by simp at hid;omega)⟩⟩
  rcases hb i o hi ho with h0|h0
  ·have hob:=hR0.obj i o h0
   refine⟨?_,?_,?_,?_⟩
   ·rintro e k ag n cs rfl c hc
    cases hob with
    |box _ _ _ _ _ B cap cur hk hn hp hbk hc' hm' hs hh=>
    obtain⟨j,hj,rfl⟩:=List.mem_iff_getElem.1 hc
    obtain⟨u,_,hu⟩:=hh j hj
    exact hu.bel.mono hm
   ·rintro kk es rfl e he
    cases hob with
    |mp _ _ B cap ents clock hp hbk hs hck hbn hh=>
    obtain⟨j,hj,rfl⟩:=List.mem_iff_getElem.1 he
    exact(hh j hj (by omega)).2.bel.mono hm
   ·rintro m' since seen rfl
    cases hob with
    |iter _ _ _ B cap bm cm kk es hp hbk hmm hpm=>exact Nat.lt_of_lt_of_le (al hmm) hm
   ·rintro r s rfl t
    cases hob with
    |lp _ _ B cap hp hbk hh=>exact(hh t).bel.mono hm
  ·exact h0
 |Em s H t id e k ag n ds ho hs=>
  intro φ N a w hI
  obtain⟨φ',N',hR',hS',hv⟩:=Rel.ya hI.rel ho
  refine⟨φ',N',hR',fun u=>?_,hI.since.trans hS',hI.size,hI.defers.since hS'⟩
  by_cases hu:u=t
  ·subst hu
   simp only[if_pos]
   have h1:=hI.tmps u
   rw[hs]at h1
   obtain⟨ad,h2,h3⟩:=hv _ h1
   rw[h2]
   exact qH h3
  ·simp only[if_neg hu]
   exact(hI.tmps u).since hI.rel hS'
 |pY s H id k0 ag m j id' ver' off len k e0 e cs es ho hj ho'=>
  intro φ N a w hI
  obtain⟨φ',N',hR',hS'⟩:=Rel.pY hI.rel ho hj ho'
  exact⟨φ',N',hR',fun u=>(hI.tmps u).since hI.rel hS',hI.since.trans hS',hI.size,hI.defers.since hS'⟩
 |wu s H id e k ag es ho hne=>
  intro φ N a w hI
  obtain⟨hR',hS'⟩:=Rel.wu hI.rel ho hne
  exact⟨φ,N,hR',fun u=>(hI.tmps u).since hI.rel hS',hI.since.trans hS',hI.size,hI.defers.since hS'⟩
 |vc s H id e k ag es ho hk=>
  intro φ N a w hI
  obtain⟨hR',hS'⟩:=Rel.vc hI.rel ho hk
  exact⟨φ,N,hR',fun u=>(hI.tmps u).since hI.rel hS',hI.since.trans hS',hI.size,hI.defers.since hS'⟩
 |more s H e k hk=>
  intro φ N a w hI
  have hS:=ar.mJ hI.rel (.arr e k 0 [])
  exact⟨φ.put H.length none,N,hI.rel.mJ e k hk,fun u=>(hI.tmps u).since hI.rel hS,hI.since.trans hS,hI.size,hI.defers.since hS⟩
 |imp s s' H h=>exact fun hI=>⟨_,_,hI.rel,fun u=>h _ _ _ _ _ (hI.tmps u),hI.since,hI.size,hI.defers⟩
 |xa s H t e k ag hk h=>
  intro φ N a w hI
  have hS:=ar.mJ hI.rel (.arr e k ag [])
  refine⟨φ.put H.length none,N,hI.rel.mJ e k hk ag,fun u=>?_,hI.since.trans hS,hI.size,hI.defers.since hS⟩
  by_cases hu:u=t
  ·subst hu
   simp only[if_pos]
   obtain⟨A,hA⟩:=jw (hI.tmps u) h
   rw[hA]
   exact .sl _ _ _ _ _ _ _ (.arr e k ag []) (by simp) (Nat.le_refl _) fun _=>⟨rfl,by simp[aA.len],.inl ⟨aI.aC _ _ _,rfl,rfl,rfl⟩⟩
  ·simp only[if_neg hu]
   exact(hI.tmps u).since hI.rel hS
 |eg s H id e0 k0 ag m cs j x e k hk ho hj hx=>
  intro φ N a w hI
  have hS:=ar.mJ hI.rel (.arr e k 0 [])
  have hR:=hI.rel.mJ e k hk
  have ho':(H++[aA.arr e k 0 []])[id]?=some (.box e0 k0 ag m cs):=by rw[List.getElem?_append_left (al ho)];exact ho
  have hob:=hR.obj id _ ho'
  cases hob with
  |box _ _ _ _ _ B cap cur g1 g2 g3 g4 g5 g6 g7 g8=>
  have hS2:ar (H++[aA.arr e k 0 []]) (φ.put H.length none) N w ((H++[aA.arr e k 0 []]).set id (.box e0 k0 ag m (cs.set j (.sl H.length 0 0 0)))) (φ.put H.length none) N w:=
   ar.set ho' g3 rfl rfl rfl (fun kk es he=>by cases he) rfl rfl rfl rfl fun _ _=>rfl
  have hset:(H++[aA.arr e k 0 []]).set id (.box e0 k0 ag m (cs.set j (.sl H.length 0 0 0)))=H.set id (.box e0 k0 ag m (cs.set j (.sl H.length 0 0 0)))++[.arr e k 0 []]:=List.set_append_left _ _ (al ho)
  rw[←hset]
  refine⟨φ.put H.length none,N,hR.set ho' g3 hS2 (fun _ _=>rfl) ?_,fun u=>((hI.tmps u).since hI.rel hS).since hR hS2,(hI.since.trans hS).trans hS2,hI.size,(hI.defers.since hS).since hS2⟩
  refine .box e0 k0 ag m _ B cap cur g1 (by simpa using g2) g3 g4 g5 g6 g7 fun i hi=>?_
  simp only[List.length_set]at hi
  obtain⟨c,hc,hd⟩:=g8 i hi
  refine⟨c,hc,?_⟩
  by_cases he:i=j
  ·subst he
   simp only[List.getElem_set_self]
   rw[List.getElem?_eq_getElem (by simpa using hi)]at hj
   cases hj
   obtain⟨A,hA⟩:=jw hd hx
   rw[hA]
   refine .sl _ _ _ _ _ _ _ (.arr e k 0 []) ?_ (Nat.le_refl _) fun _=>⟨rfl,by simp[aA.len],.inl ⟨aI.aC _ _ _,rfl,rfl,rfl⟩⟩
   rw[List.getElem?_set_ne (by have:=al ho;omega)]
   simp
  ·rw[List.getElem_set_ne (Ne.symm he)]
   exact hd.since hR hS2
 |trans _ _ ih1 ih2=>
  intro φ N a w hI
  obtain⟨φ1,N1,h1⟩:=ih1 hI
  exact ih2 h1
theorem Rel.Gc{H:aa}{φ:aI}{N:Addr→Prop}{w:World}(hR:Rel H φ N w):jG H.length H:=by
 intro i o ho
 have hob:=hR.obj i o ho
 refine⟨?_,?_,?_,?_⟩
 ·rintro e k ag n cs rfl c hc
  cases hob with
  |box _ _ _ _ _ B cap cur hk hn hp hbk hc' hm' hs hh=>
  obtain⟨j,hj,rfl⟩:=List.mem_iff_getElem.1 hc
  obtain⟨u,_,hu⟩:=hh j hj
  exact hu.bel
 ·rintro kk es rfl e he
  cases hob with
  |mp _ _ B cap ents clock hp hbk hs hck hbn hh=>
  obtain⟨j,hj,rfl⟩:=List.mem_iff_getElem.1 he
  exact(hh j hj (by omega)).2.bel
 ·rintro m' since seen rfl
  cases hob with
  |iter _ _ _ B cap bm cm kk es hp hbk hmm hpm=>exact al hmm
 ·rintro r s rfl t
  cases hob with
  |lp _ _ B cap hp hbk hh=>exact(hh t).bel
theorem RA.pre{H T:aa}{φ:aI}{N:Addr→Prop}{w:World}{x:AV}{v:Value}(h:RA (H++T) φ N w x v)(hb:iG H.length x):RA H φ N w x v:=by
 have g:∀{id:Nat} {o:aA},id<H.length→(H++T)[id]?=some o→H[id]?=some o:=fun hl h=>by rwa[List.getElem?_append_left hl]at h
 induction h with
 |top=>exact .top _
 |d hd=>exact .d hd
 |cU=>exact .cU _
 |ptr id ag i j A o ho hv hp=>cases hb with|ptr _ _ _ _ h=>exact .ptr _ _ _ _ _ o (g h ho) hv hp
 |bW cs ad c hc hd=>exact .bW cs ad c hc hd
 |sl id ag off len A l m' o ho hv hp=>cases hb with|sl _ _ _ _ h=>exact .sl _ _ _ _ _ _ _ o (g h ho) hv hp
 |agg cs vs hl _ ih=>cases hb with|agg _ hb=>exact .agg cs vs hl fun i h1 h2=>ih i h1 h2 (hb i h1)
 |bq cs vs hl _ ih=>cases hb with|bq _ hb=>exact .bq cs vs hl fun i h1 h2=>ih i h1 h2 (hb i h1)
 |fn f cs vs hl _ ih=>cases hb with|fn _ _ hb=>exact .fn f cs vs hl fun i h1 h2=>ih i h1 h2 (hb i h1)
 |mp id B c kk es ho hp=>cases hb with|mp _ h=>exact .mp id B c kk es (g h ho) hp
 |gl id B o ho hp=>cases hb with|gl _ h=>exact .gl id B o (g h ho) hp
theorem Rel.pre{H T:aa}{φ:aI}{N:Addr→Prop}{w:World}(hR:Rel (H++T) φ N w)(hb:jG H.length H):Rel H φ N w where
 obj id o h:=by
  have h':(H++T)[id]?=some o:=by rw[List.getElem?_append_left (al h)];exact h
  obtain⟨hb1,hb2,hb3,hb4⟩:=hb id o h
  cases hR.obj id o h' with
  |arr e k ag es hk hes hh=>exact .arr e k ag es hk hes hh
  |box e k ag n cs B cap cur hk hn hp hbk hc hm hs hh=>
   refine .box e k ag n cs B cap cur hk hn hp hbk hc hm hs fun j hj=>?_
   obtain⟨c,hc,hd⟩:=hh j hj
   exact⟨c,hc,hd.pre (hb1 e k ag n cs rfl _ (List.getElem_mem hj))⟩
  |mp kk es B cap ents clock hp hbk hs hck hbn hh=>exact .mp kk es B cap ents clock hp hbk hs hck hbn fun j hj hj2=>⟨(hh j hj hj2).1,(hh j hj hj2).2.pre (hb2 kk es rfl _ (List.getElem_mem hj))⟩
  |dead ag hp=>exact .dead ag hp
  |iter m' since seen B cap bm cm kk es hp hbk hm hpm=>exact .iter m' since seen B cap bm cm kk es hp hbk (by rwa[List.getElem?_append_left (hb3 m' since seen rfl)]at hm) hpm
  |lp r s B cap hp hbk hh=>exact .lp r s B cap hp hbk fun t=>(hh t).pre (hb4 r s rfl t)
 inj i j B c c' hi hj h1 h2:=hR.inj i j B c c' (by simp;omega) (by simp;omega) h1 h2
 live:=hR.live
 apart a id B c ha hid hp:=hR.apart a id B c ha (by simp;omega) hp
theorem RA.ext{H T:aa}{φ φ':aI}{N:Addr→Prop}{w:World}{x:AV}{v:Value}(h:RA H φ N w x v)(hp':∀i,i<H.length→φ' i=φ i):RA (H++T) φ' N w x v:=by
 have g:∀{id:Nat} {o:aA},H[id]?=some o→(H++T)[id]?=some o:=fun h=>by rw[List.getElem?_append_left (al h)];exact h
 induction h with
 |top=>exact .top _
 |d hd=>exact .d hd
 |cU=>exact .cU _
 |ptr id ag i j A o ho hv hp=>exact .ptr _ _ _ _ _ o (g ho) hv (by rw[hp' _ (al ho)];exact hp)
 |bW cs ad c hc hd=>exact .bW cs ad c hc hd
 |sl id ag off len A l m' o ho hv hp=>exact .sl _ _ _ _ _ _ _ o (g ho) hv (by rw[hp' _ (al ho)];exact hp)
 |agg cs vs hl _ ih=>exact .agg cs vs hl ih
 |bq cs vs hl _ ih=>exact .bq cs vs hl ih
 |fn f cs vs hl _ ih=>exact .fn f cs vs hl ih
 |mp id B c kk es ho hp=>exact .mp id B c kk es (g ho) (by rw[hp' _ (al ho)];exact hp)
 |gl id B o ho hp=>exact .gl id B o (g ho) (by rw[hp' _ (al ho)];exact hp)
theorem iw.ext{H T:aa}{φ φ':aI}{N:Addr→Prop}{w:World}{id:Nat}{o:aA}(h:iw H φ N w id o)(hid:id<H.length)(hp':∀i,i<H.length→φ' i=φ i):iw (H++T) φ' N w id o:=by
 have e:=hp' id hid
 cases h with
 |arr e1 k ag es hk hes hh=>exact .arr e1 k ag es hk hes (by rw[e];exact hh)
 |box e1 k ag n cs B cap cur hk hn hp hbk hc hm hs hh=>
  refine .box e1 k ag n cs B cap cur hk hn (e.trans hp) hbk hc hm hs fun j hj=>?_
  obtain⟨c,hc,hd⟩:=hh j hj
  exact⟨c,hc,hd.ext hp'⟩
 |mp kk es B cap ents clock hp hbk hs hck hbn hh=>exact .mp kk es B cap ents clock (e.trans hp) hbk hs hck hbn fun j hj hj2=>⟨(hh j hj hj2).1,(hh j hj hj2).2.ext hp'⟩
 |dead ag hp=>exact .dead ag (e.trans hp)
 |iter m' since seen B cap bm cm kk es hp hbk hm hpm=>exact .iter m' since seen B cap bm cm kk es (e.trans hp) hbk (by rw[List.getElem?_append_left (al hm)];exact hm) ((hp' _ (al hm)).trans hpm)
 |lp r s B cap hp hbk hh=>exact .lp r s B cap (e.trans hp) hbk fun t=>(hh t).ext hp'
theorem RA.off{H:aa}{φ:aI}{N:Addr→Prop}{w w':World}{x:AV}{v:Value}(h:RA H φ N w x v)(hc:∀a v,N a→w.cell? a=some v→w'.cell? a=some v):RA H φ N w' x v:=by
 induction h with
 |top=>exact .top _
 |d hd=>exact .d (hd.mono (fun _ h=>h) hc)
 |cU=>exact .cU _
 |ptr id ag i j A o ho hv hp=>exact .ptr _ _ _ _ _ o ho hv hp
 |bW cs ad c hn hd=>exact .bW cs ad c (fun t ht=>⟨(hn t ht).1,hc _ _ (hn t ht).1 (hn t ht).2⟩) fun t ht=>(hd t ht).mono (fun _ h=>h) hc
 |sl id ag off len A l m' o ho hv hp=>exact .sl _ _ _ _ _ _ _ o ho hv hp
 |agg cs vs hl _ ih=>exact .agg cs vs hl ih
 |bq cs vs hl _ ih=>exact .bq cs vs hl ih
 |fn f cs vs hl _ ih=>exact .fn f cs vs hl ih
 |mp id B c kk es ho hp=>exact .mp id B c kk es ho hp
 |gl id B o ho hp=>exact .gl id B o ho hp
theorem Rel.off{H:aa}{φ:aI}{N:Addr→Prop}{w w':World}(hR:Rel H φ N w)(hb:∀id B c,id<H.length→φ id=some (B,c)→w'.heap[B]?=w.heap[B]?)(hc:∀a v,N a→w.cell? a=some v→w'.cell? a=some v):Rel H φ N w' where
 obj id o h:=by
  have hl:=al h
  cases hR.obj id o h with
  |arr e k ag es hk hes hh=>
   refine .arr e k ag es hk hes ?_
   rcases hh with hh|⟨B,cap,cur,g1,g2,g3,g4,g5,g6⟩
   ·exact .inl hh
   ·refine .inr ⟨B,cap,cur,g1,(hb id B cap hl g1).trans g2,g3,g4,g5,fun i hi j hj=>?_⟩
    obtain⟨c,h1,h2⟩:=g6 i hi j hj
    exact⟨c,h1,h2.mono (fun _ h=>h) hc⟩
  |box e1 k ag n cs B cap cur hk hn hp hbk hc' hm hs hh=>
   refine .box e1 k ag n cs B cap cur hk hn hp ((hb id B cap hl hp).trans hbk) hc' hm hs fun j hj=>?_
   obtain⟨c,h1,hd⟩:=hh j hj
   exact⟨c,h1,hd.off hc⟩
  |mp kk es B cap ents clock hp hbk hs hck hbn hh=>exact .mp kk es B cap ents clock hp ((hb id B cap hl hp).trans hbk) hs hck hbn fun j hj hj2=>⟨(hh j hj hj2).1,(hh j hj hj2).2.off hc⟩
  |dead ag hp=>exact .dead ag hp
  |iter m' since seen B cap bm cm kk es hp hbk hm hpm=>exact .iter m' since seen B cap bm cm kk es hp ((hb id B cap hl hp).trans hbk) hm hpm
  |lp r s B cap hp hbk hh=>exact .lp r s B cap hp ((hb id B cap hl hp).trans hbk) fun t=>(hh t).off hc
 inj:=hR.inj
 live a ha:=by obtain⟨v,hv⟩:=hR.live a ha;exact⟨v,hc a v ha hv⟩
 apart:=hR.apart
theorem Rel.put{H:aa}{φ:aI}{N:Addr→Prop}{w:World}(hR:Rel H φ N w){X:Nat}{o o':Obj}(hX:w.heap[X]?=some o)(ho:∀cs e fr,o≠ .cells cs e fr)(hn:∀id c,id<H.length→φ id≠some (X,c)):
  Rel H φ N (w.putObj X o')∧∀x v,RA H φ N w x v→RA H φ N (w.putObj X o') x v:=by
 have hc:∀a v,N a→w.cell? a=some v→(w.putObj X o').cell? a=some v:=by
  intro a v ha hv
  have hne:a.block≠X:=by
   intro e
   subst e
   unfold World.cell? at hv
   rw[hX]at hv
   cases o<;>first|cases hv|exact absurd rfl (ho _ _ _)
  rw[World.cell?_of_block (World.putObj_heap_other hne)]
  exact hv
 exact⟨hR.off (fun id B c hid hp=>World.putObj_heap_other fun e=>hn id c hid (by rw[←e];exact hp)) hc,fun x v h=>h.off hc⟩
structure eJ (X:Nat) (H0:aa) (φ0:aI) (N0:Addr→Prop) (w0:World) (H:aa) (φ:aI) (N:Addr→Prop) (w:World):Prop where
 len:H0.length≤H.length
 os:w.os=w0.os
 tape:w.tape=w0.tape
 output:w.output=w0.output
 size:w0.heap.size≤w.heap.size
 cw:∀k,k<w0.heap.size→k≠X→(∀id c,id<H0.length→φ0 id≠some (k,c))→w.heap[k]?=w0.heap[k]?
 own:∀id B c,id<H.length→φ id=some (B,c)→B<w0.heap.size→∃id0 c0,id0<H0.length∧φ0 id0=some (B,c0)
 mono:∀a,N0 a→N a
 bI:∀id o,H0[id]?=some o→∃o',H[id]?=some o'∧o'.k=o.k∧o.ag≤o'.ag∧(o.ag=o'.ag→φ id=φ0 id∧o.len≤o'.len)∧∀kk es,o= .mp kk es→φ id=φ0 id∧∃es',o'= .mp kk es'
 mO:∀a,N a→N0 a∨w0.heap.size≤a.block∨∃id c,id<H0.length∧φ0 id=some (a.block,c)
theorem ar.x{H H':aa}{φ φ':aI}{N N':Addr→Prop}{w w':World}(h:ar H φ N w H' φ' N' w')(X:Nat):eJ X H φ N w H' φ' N' w':=
 ⟨h.len,h.os,h.tape,h.output,h.size,fun k hk _=>h.cw k hk,h.own,h.mono,h.bI,h.mO⟩
theorem eJ.trans{X:Nat}{H0 H1 H2:aa}{φ0 φ1 φ2:aI}{N0 N1 N2:Addr→Prop}{w0 w1 w2:World}(h:eJ X H0 φ0 N0 w0 H1 φ1 N1 w1)(g:eJ X H1 φ1 N1 w1 H2 φ2 N2 w2):eJ X H0 φ0 N0 w0 H2 φ2 N2 w2 where
 len:=Nat.le_trans h.len g.len
 os:=g.os.trans h.os
 tape:=g.tape.trans h.tape
 output:=g.output.trans h.output
 size:=Nat.le_trans h.size g.size
 cw k hk hx hn:=by
  rw[g.cw k (Nat.lt_of_lt_of_le hk h.size) hx ?_,h.cw k hk hx hn]
  intro id c hid hc
  obtain⟨id0,c0,hi0,h0⟩:=h.own id k c hid hc hk
  exact hn id0 c0 hi0 h0
 own id _ c hid hc hB:=by
  obtain⟨id1,c1,hi1,h1⟩:=g.own id _ c hid hc (Nat.lt_of_lt_of_le hB h.size)
  exact h.own id1 _ c1 hi1 h1 hB
 mono a ha:=g.mono a (h.mono a ha)
 bI id o ho:=by
  obtain⟨o1,ho1,hk1,hv1,hq1,hm1⟩:=h.bI id o ho
  obtain⟨o2,ho2,hk2,hv2,hq2,hm2⟩:=g.bI id o1 ho1
  refine⟨o2,ho2,hk2.trans hk1,Nat.le_trans hv1 hv2,fun he=>?_,fun kk es he=>?_⟩
  ·obtain⟨p1,l1⟩:=hq1 (by omega)
   obtain⟨p2,l2⟩:=hq2 (by omega)
   exact⟨p2.trans p1,Nat.le_trans l1 l2⟩
  ·obtain⟨p1,es1,e1⟩:=hm1 kk es he
   obtain⟨p2,es2,e2⟩:=hm2 kk es1 e1
   exact⟨p2.trans p1,es2,e2⟩
 mO a ha:=by
  rcases g.mO a ha with h1|h1|⟨id,c,hid,hp⟩
  ·exact h.mO a h1
  ·exact .inr (.inl (Nat.le_trans h.size h1))
  ·rcases Nat.lt_or_ge a.block w0.heap.size with hl|hl
   ·obtain⟨id0,c0,h2,h3⟩:=h.own id _ c hid hp hl
    exact .inr (.inr ⟨id0,c0,h2,h3⟩)
   ·exact .inr (.inl hl)
theorem eJ.put{X:Nat}{H H':aa}{φ φ':aI}{N N':Addr→Prop}{w w':World}(h:eJ X H φ N w H' φ' N' w')(o:Obj):eJ X H φ N w H' φ' N' (w'.putObj X o)where
 len:=h.len
 os:=h.os
 tape:=h.tape
 output:=h.output
 size:=by rw[World.putObj_size];exact h.size
 cw k hk hx hn:=(World.putObj_heap_other hx).trans (h.cw k hk hx hn)
 own:=h.own
 mono:=h.mono
 bI:=h.bI
 mO:=h.mO
theorem ar.both{H H':aa}{φ φ':aI}{N N':Addr→Prop}{w w':World}{X:Nat}(h:ar H φ N w H' φ' N' w')(hX:X<w.heap.size)(o:Obj):ar H φ N (w.putObj X o) H' φ' N' (w'.putObj X o)where
 len:=h.len
 os:=h.os
 tape:=h.tape
 output:=h.output
 size:=by simp only[World.putObj_size];exact h.size
 cw k hk hn:=by
  rw[World.putObj_size]at hk
  by_cases e:k=X
  ·subst e
   rw[World.putObj_heap_same hX,World.putObj_heap_same (Nat.lt_of_lt_of_le hX h.size)]
  ·rw[World.putObj_heap_other e,World.putObj_heap_other e]
   exact h.cw k hk hn
 own id B c hid hp hB:=h.own id B c hid hp (by rw[World.putObj_size]at hB;exact hB)
 mono:=h.mono
 bI:=h.bI
 mO a ha:=by rw[World.putObj_size];exact h.mO a ha
theorem ar.Hy{H H':aa}{φ φ':aI}{N N':Addr→Prop}{w w':World}{X:Nat}{o:Obj}(h:ar H φ N (w.putObj X o) H' φ' N' w'):eJ X H φ N w H' φ' N' w' where
 len:=h.len
 os:=h.os
 tape:=h.tape
 output:=h.output
 size:=by have:=h.size;rwa[World.putObj_size]at this
 cw k hk hx hn:=(h.cw k (by rw[World.putObj_size];exact hk) hn).trans (World.putObj_heap_other hx)
 own id B c hid hp hB:=h.own id B c hid hp (by rw[World.putObj_size];exact hB)
 mono:=h.mono
 bI:=h.bI
 mO a ha:=by have:=h.mO a ha;rwa[World.putObj_size]at this
theorem eJ.since{X:Nat}{H H':aa}{φ φ':aI}{N N':Addr→Prop}{w w':World}(h:eJ X H φ N w H' φ' N' w')(hX:w.heap.size≤X):ar H φ N w H' φ' N' w':=
 ⟨h.len,h.os,h.tape,h.output,h.size,fun k hk hn=>h.cw k hk (by omega) hn,h.own,h.mono,h.bI,h.mO⟩
theorem ar.pre{H0 H T:aa}{φ0 φ:aI}{N0 N:Addr→Prop}{w0 w:World}(h:ar H0 φ0 N0 w0 (H++T) φ N w)(hl:H0.length≤H.length):ar H0 φ0 N0 w0 H φ N w where
 len:=hl
 os:=h.os
 tape:=h.tape
 output:=h.output
 size:=h.size
 cw:=h.cw
 own id B c hid:=h.own id B c (by simp;omega)
 mono:=h.mono
 bI id o ho:=by
  obtain⟨o',h1,h2⟩:=h.bI id o ho
  exact⟨o',by rwa[List.getElem?_append_left (by have:=al ho;omega)]at h1,h2⟩
 mO:=h.mO
theorem A2{Hk H3 T:aa}{φ φ3:aI}{N N3:Addr→Prop}{w w4:World}{r r4:Loop}{s:Nat→AV}{B c:Nat}(hR:Rel (Hk++ .lp r s::T) φ N w)(hB:φ Hk.length=some (B,c))(hX:eJ B Hk φ N w H3 φ3 N3 w4)
  (hR3:Rel H3 φ3 N3 w4) (hl:H3.length=Hk.length) (hb:w4.heap[B]?=some (.loop r4)) (ht:r4.tmps=r.tmps):
  ∃φ',Rel (H3++ .lp r4 s::T) φ' N3 w4∧ar (Hk++ .lp r s::T) φ N w (H3++ .lp r4 s::T) φ' N3 w4:=by
 let φ':aI:=fun i=>if i<Hk.length then φ3 i else φ i
 have e1:∀i,i<Hk.length→φ' i=φ3 i:=fun i hi=>if_pos hi
 have e2:∀i,Hk.length≤i→φ' i=φ i:=fun i hi=>if_neg (by omega)
 have hll:(H3++aA.lp r4 s::T).length=(Hk++aA.lp r s::T).length:=by simp[hl]
 have hlp:(Hk++aA.lp r s::T)[Hk.length]?=some (.lp r s):=by simp
 have hml:Hk.length<(Hk++aA.lp r s::T).length:=by simp
 have getT:∀i o,Hk.length<i→(Hk++aA.lp r s::T)[i]?=some o→(H3++aA.lp r4 s::T)[i]?=some o:=by
  intro i o hi h
  rw[List.getElem?_append_right (by omega)]at h⊢
  rw[hl]
  rw[show i-Hk.length=(i-Hk.length-1)+1 from by omega]at h⊢
  exact h
 have getT':∀i o,Hk.length<i→(H3++aA.lp r4 s::T)[i]?=some o→(Hk++aA.lp r s::T)[i]?=some o:=by
  intro i o hi h
  rw[List.getElem?_append_right (by omega)]at h⊢
  rw[hl]at h
  rw[show i-Hk.length=(i-Hk.length-1)+1 from by omega]at h⊢
  exact h
 have hS:ar (Hk++ .lp r s::T) φ N w (H3++ .lp r4 s::T) φ' N3 w4:=by
  refine⟨by rw[hll];exact Nat.le_refl _,hX.os,hX.tape,hX.output,hX.size,fun k hk hn=>?_,fun id B' c' hid hp hlt=>?_,hX.mono,fun id o ho=>?_,fun a ha=>?_⟩
  ·exact hX.cw k hk (fun e=>hn _ c hml (by rw[e];exact hB)) fun id c' hid=>hn id c' (by simp;omega)
  ·rcases Nat.lt_or_ge id Hk.length with hi|hi
   ·rw[e1 id hi]at hp
    obtain⟨id0,c0,h1,h2⟩:=hX.own id B' c' (by omega) hp hlt
    exact⟨id0,c0,by simp;omega,h2⟩
   ·rw[e2 id hi]at hp
    exact⟨id,c',by omega,hp⟩
  ·rcases Nat.lt_trichotomy id Hk.length with hi|hi|hi
   ·rw[List.getElem?_append_left hi]at ho
    obtain⟨o',h1,h2⟩:=hX.bI id o ho
    exact⟨o',by rw[List.getElem?_append_left (by omega)];exact h1,by rw[e1 id hi];exact h2⟩
   ·subst hi
    rw[hlp]at ho;cases ho
    exact⟨.lp r4 s,by rw[←hl];simp,rfl,Nat.le_refl _,fun _=>⟨e2 _ (Nat.le_refl _),Nat.le_refl _⟩,fun kk es he=>by cases he⟩
   ·exact⟨o,getT id o hi ho,rfl,Nat.le_refl _,fun _=>⟨e2 _ (by omega),Nat.le_refl _⟩,fun kk es he=>⟨e2 _ (by omega),es,he⟩⟩
  ·rcases hX.mO a ha with h1|h1|⟨id,c',h1,h2⟩
   ·exact .inl h1
   ·exact .inr (.inl h1)
   ·exact .inr (.inr ⟨id,c',by simp;omega,h2⟩)
 have own3:∀i B' c',i<Hk.length→φ3 i=some (B',c')→∀j c'',Hk.length≤j→j<(Hk++aA.lp r s::T).length→φ j≠some (B',c''):=by
  intro i B' c' hi hp j c'' hj hj2 hpj
  obtain⟨id0,c0,h1,h2⟩:=hX.own i B' c' (by omega) hp (hR.bZ hj2 hpj)
  have:=hR.inj id0 j B' c0 c'' (by simp;omega) hj2 h2 hpj
  omega
 refine⟨φ',⟨fun id o ho=>?_,fun i j B' c1 c2 hi hj h1 h2=>?_,hR3.live,fun a id B' c' ha hid hp=>?_⟩,hS⟩
 ·rcases Nat.lt_trichotomy id Hk.length with hi|hi|hi
  ·rw[List.getElem?_append_left (by omega)]at ho
   exact(hR3.obj id o ho).ext (by omega) fun i hi=>e1 i (by omega)
  ·subst hi
   have ho':(H3++aA.lp r4 s::T)[Hk.length]?=some (.lp r4 s):=by rw[←hl];simp
   rw[ho']at ho;cases ho
   cases hR.obj _ _ hlp with
   |lp _ _ B' c' hp' hb' hh=>
   rw[hB]at hp';cases hp'
   exact .lp r4 s B c ((e2 _ (Nat.le_refl _)).trans hB) hb fun t=>by rw[ht];exact(hh t).since hR hS
  ·have h0:=getT' id o hi ho
   refine(hR.obj id o h0).cw hR hS (e2 id (by omega)) fun B' c' hp=>?_
   refine hX.cw B' (hR.bZ (al h0) hp) (fun e=>?_) fun id0 c0 h1 h2=>?_
   ·subst e
    have:=hR.inj id Hk.length B' c' c (al h0) hml hp hB
    omega
   ·have:=hR.inj id id0 B' c' c0 (al h0) (by simp;omega) hp h2
    omega
 ·rw[hll]at hi hj
  rcases Nat.lt_or_ge i Hk.length with a|a<;>rcases Nat.lt_or_ge j Hk.length with b|b
  ·rw[e1 i a]at h1;rw[e1 j b]at h2
   exact hR3.inj i j B' c1 c2 (by omega) (by omega) h1 h2
  ·rw[e1 i a]at h1;rw[e2 j b]at h2
   exact absurd h2 (own3 i B' c1 a h1 j c2 b hj)
  ·rw[e2 i a]at h1;rw[e1 j b]at h2
   exact absurd h1 (own3 j B' c2 b h2 i c1 a hi)
  ·rw[e2 i a]at h1;rw[e2 j b]at h2
   exact hR.inj i j B' c1 c2 hi hj h1 h2
 ·rw[hll]at hid
  rcases Nat.lt_or_ge id Hk.length with hi|hi
  ·rw[e1 id hi]at hp
   exact hR3.apart a id B' c' ha (by omega) hp
  ·rw[e2 id hi]at hp
   intro e
   rcases hX.mO a ha with h1|h1|⟨id0,c0,h1,h2⟩
   ·exact hR.apart a id B' c' h1 hid hp e
   ·have:=hR.bZ hid hp
    omega
   ·rw[e]at h2
    have:=hR.inj id id0 B' c' c0 hid (by simp;omega) hp h2
    omega
theorem mu{P:Program}{F:Fence}{c:Code}{Q:Exit→Act→World→Prop}:∀(m n:Nat),m≤n→∀a w,Code.roundsIn F 0 P c Q m a w→Code.roundsIn F 0 P c Q n a w
 |0,_,_,_,_,h=>h.elim
 |m+1,0,hle,_,_,_=>by omega
 |m+1,n+1,hle,a,w,h=>wpIn_mono h fun e a w hq=>by
  cases e with
  |normal=>exact mu m n (by omega) a w hq
  |_=>exact hq
theorem r8{P:Program}{F:Fence}{c:Code}{Q:Exit→Act→World→Prop}(J:Nat→Act→World→Prop){n:Nat}{a:Act}{w:World}
  (round:∀n a w,J n a w→c.wpIn F 0 P (Exit.then (fun a' w'=>∃m,m<n∧J m a' w') Q) a w) (h0:J n a w):(Code.loop c).wpIn F 0 P Q a w:=by
 refine wpIn_loop_rounds (n+1) ?_
 induction n using Nat.strongRecOn generalizing a w with
 |_ n ih=>
  rw[roundsIn_succ]
  refine wpIn_mono (round n a w h0) fun e a' w' hq=>?_
  cases e with
  |normal=>
   obtain⟨m,hm,hJ⟩:=hq
   exact mu (m+1) n (by omega) _ _ (ih m hm hJ)
  |_=>exact hq
theorem vu{P:Program}{F:Fence}{c:Code}{Q:Exit→Act→World→Prop}{a:Act}{w:World}(h:c.wpIn F 0 P (Exit.noGoto Q) a w):(Code.scope c).wpIn F 0 P Q a w:=by
 intro b k cs hro hb hr
 have s1:step P (lone (b.atR a (.code (.scope c)::k)) cs w)= .next (lone (b.atR a (.code c:: .inScope c::k)) cs w):=step_lone_go (by simp[stepG,stepG.exec,Frame.atR])
 have s2:∀(a:Act) (w:World),step P (lone (b.atR a (.inScope c::k)) cs w)= .next (lone (b.atR a k) cs w):=fun a w=>step_lone_go (by simp[stepG,stepG.exec,Frame.atR])
 have f1:(lone (b.atR a (.code (.scope c)::k)) cs w).fenced P F:=fenced_calm (fr:=b.atR a (.code (.scope c)::k)) hb hr rfl
 obtain⟨e,a₁,w₁,hq,harr⟩:=h b (.inScope c::k) cs hro hb hr
 cases e with
 |normal=>exact⟨.normal,a₁,w₁,hq,.head f1 s1 (StepsIn.trans harr (.one (fenced_calm (fr:=b.atR a₁ (.inScope c::k)) hb hr rfl) (s2 _ _)))⟩
 |exit id=>exact⟨.exit id,a₁,w₁,hq,.of_steps (.one f1 s1) ⟨fun k' hk=>harr.1 k' (by simp[exitTo,hk]),fun hr' hk=>harr.2 hr' (by simp[exitTo,hk])⟩⟩
 |goto l=>exact hq.elim
 |ret=>exact⟨.ret,a₁,w₁,hq,.of_steps (.one f1 s1) (show ArrivesIn _ P _ b k cs (.ret) a₁ w₁ from harr)⟩
 |panic ch=>exact⟨.panic ch,a₁,w₁,hq,.of_steps (.one f1 s1) (show ArrivesIn _ P _ b k cs (.panic ch) a₁ w₁ from harr)⟩
 |outgrown=>exact⟨.outgrown,a₁,w₁,hq,.of_steps (.one f1 s1) (show ArrivesIn _ P _ b k cs (.outgrown) a₁ w₁ from harr)⟩
theorem pC{H:aa}{φ:aI}{N:Addr→Prop}{w:World}{n:Nat}:∀(ps:List Tmp) (xs:List AV) (vs:List Value) {s:Nat→AV} {tmps:Array Value},xs.length=vs.length→(∀i (h1:i<xs.length) (h2:i<vs.length),RA H φ N w (xs[i]) (vs[i]))→tmps.size=n→
  (∀t,RA H φ N w (s t) (tmps.getD t undef))→(((ps.zip vs).foldl (fun t (p:Tmp×Value)=>t.setIfInBounds p.1 p.2) tmps).size=n∧∀t,RA H φ N w (gK n s ps xs t) (((ps.zip vs).foldl (fun t (p:Tmp×Value)=>t.setIfInBounds p.1 p.2) tmps).getD t undef))
 |[],_,_,s,tmps,_,_,hs,h=>⟨hs,h⟩
 |_::_,[],[],s,tmps,_,_,hs,h=>⟨hs,h⟩
 |_::_,[],_::_,_,_,hl,_,_,_=>by simp at hl
 |_::_,_::_,[],_,_,hl,_,_,_=>by simp at hl
 |p::ps,x::xs,v::vs,s,tmps,hl,hx,hs,h=>by
  have h1:bF H φ N w (bl n s (some p) x) (({tmps:=tmps,defers:=[]}:Act).put (some p) v):=bF.put (a:={tmps:=tmps,defers:=[]}) h (hx 0 (by simp) (by simp)) hs
  exact pC ps xs vs (by simpa using hl) (fun i h1 h2=>hx (i+1) (by simp;omega) (by simp;omega)) (by simpa using hs) h1
theorem Ay(ps:Array Tmp)(vs:Array Value)(tmps:Array Value):((ps.zip vs).foldl (fun t (x:Tmp×Value)=>match x with|(t1,a)=>t.setIfInBounds t1 a) tmps)=((ps.toList.zip vs.toList).foldl (fun t (p:Tmp×Value)=>t.setIfInBounds p.1 p.2) tmps):=by
 rw[←Array.toList_zip,Array.foldl_toList]
theorem zK{P:Program}{hint':Nat→Bool}{n:Nat}{x y:Code}(hh:hint' 2000000=false)
  (ihx:∀{l:Nat} {hint:Nat→Bool} {H0:aa} {φ0:aI} {N0:Addr→Prop} {w0:World} {ds:DS} (hmk:hint 2000000=true→ds.marks=true∧Fence.wide.inRound l=Fence.wide) (hR0:Rel H0 φ0 N0 w0) (Q:aQ) {s:Nat→AV} {H:aa} {φ:aI} {N:Addr→Prop} {a:Act} {w:World},Inv H0 φ0 N0 w0 n ds s H φ N a w→cq P hint n H0 x Q s H→x.wpIn (Fence.wide.inRound l) 0 P (jf H0 φ0 N0 w0 n ds Q) a w)
  (ihy:∀{l:Nat} {hint:Nat→Bool} {H0:aa} {φ0:aI} {N0:Addr→Prop} {w0:World} {ds:DS} (hmk:hint 2000000=true→ds.marks=true∧Fence.wide.inRound l=Fence.wide) (hR0:Rel H0 φ0 N0 w0) (Q:aQ) {s:Nat→AV} {H:aa} {φ:aI} {N:Addr→Prop} {a:Act} {w:World},Inv H0 φ0 N0 w0 n ds s H φ N a w→cq P hint n H0 y Q s H→y.wpIn (Fence.wide.inRound l) 0 P (jf H0 φ0 N0 w0 n ds Q) a w)
  {r:Loop} {s0:Nat→AV} {Hk T:aa} {m:Nat} {args:List AV} {In:aa→Prop} {Ix:AX→aa→Prop} (hm:Hk.length=m) (hbel:jG Hk.length Hk) (hsb:∀t,iG Hk.length (s0 t))
  (hrx:r.assign=x) (hry:r.body=y) (hrs:r.state= .ready) (hrp:r.pending=none) (hrt:r.tmps.size=n) (hpa:args.length=r.params.size) (hab:∀v∈args,iG Hk.length v)
  (h:cq P hint' n Hk x (fun e s1 H2=>match e with
    | .normal=>cq P hint' n Hk y (fun e s2 H3=>∃s3 H4,an Hk s2 H3 s3 H4∧H4.length=m∧(match e with| .normal=>In H4| .panic _=>False|e=>Ix e H4)) s1 H2
    |_=>False) (gK n s0 r.params.toList args) Hk):
  r1 P (Hk++ .lp r s0::T) m args fun b G=>if b=true then ∃Hk',(In Hk'∧jG Hk'.length Hk'∧Hk'.length=m)∧G=Hk'++ .lp r s0::T else ∃Hk' c,(∃e,AX.jump e=some c∧Ix e Hk'∧jG Hk'.length Hk')∧jG m Hk'∧Hk'.length=m∧G=Hk'++ .lp (p3 r c) s0::T:=by
 subst hm
 have hlp:(Hk++aA.lp r s0::T)[Hk.length]?=some (.lp r s0):=by simp
 have hml:Hk.length<(Hk++aA.lp r s0::T).length:=by simp
 refine⟨⟨r,s0,hlp⟩,fun φ N w vals B c hR hA hB=>?_⟩
 cases hR.obj _ _ hlp with
 |lp _ _ B' c' hp hb hts=>
 rw[hB]at hp;cases hp
 have hRk:=hR.pre hbel
 have hvl:vals.size=r.params.size:=by rw[←hA.1];exact hpa
 have hy:=run_yield (P:=P) (args:=vals) hb hvl
 obtain⟨fz1,fz2⟩:=pC (n:=n) r.params.toList args vals.toList (s:=s0) (tmps:=r.tmps) (by rw[Array.length_toList];exact hA.1) (fun i h1 h2=>(hA.2 i h1 (by simpa using h2)).pre (hab _ (List.getElem_mem h1))) hrt (fun t=>(hts t).pre (hsb t))
 rw[←Ay]at fz1 fz2
 refine⟨_,_,_,_,hy,roundIn_of_wpIn trivial ?_⟩
 rw[hrx,hry]
 have hI:Inv Hk φ N w n ⟨false,[]⟩ (gK n s0 r.params.toList args) Hk φ N {tmps:=(r.params.zip vals).foldl (fun t (x:Tmp×Value)=>match x with|(t1,a)=>t.setIfInBounds t1 a) r.tmps,defers:=[]} w:=
  ⟨hRk,fz2,ar.refl,fz1,gW.refl⟩
 refine wpIn_mono (ihx (fun e=>by rw[hh]at e;cases e) hRk _ hI h) ?_
 rintro e a1 w1 ⟨ax,s1,H1,φ1,N1,rfl,hq,hI1⟩
 cases ax with
 |exit _=>exact hq.elim
 |ret=>exact hq.elim
 |panic _=>exact hq.elim
 |normal=>
 have hBout:∀id c',id<Hk.length→φ id≠some (B,c'):=fun id c' hid hp=>by
  have:=hR.inj id Hk.length B c' c (by simp;omega) hml hp hB
  omega
 have hBlt:B<w.heap.size:=(Array.getElem?_eq_some_iff.1 hb).1
 have hBout1:∀id c',id<H1.length→φ1 id≠some (B,c'):=fun id c' hid hp=>by
  obtain⟨id0,c0,h1,h2⟩:=hI1.since.own id B c' hid hp hBlt
  exact hBout id0 c0 h1 h2
 have hb1:w1.heap[B]?=some (.loop r):=(hI1.since.cw B hBlt hBout).trans hb
 refine⟨_,run_beginRound hb1 hrs,?_⟩
 generalize hrb:({r with state:= .busy}:Loop)=rb
 obtain⟨hR2,hra2⟩:=hI1.rel.put (o':= .loop rb) hb1 (fun _ _ _ e=>by cases e) hBout1
 obtain⟨hRb,_⟩:=hRk.put (o':= .loop rb) hb (fun _ _ _ e=>by cases e) hBout
 have hI2:Inv Hk φ N (w.putObj B (.loop rb)) n ⟨false,a1.defers⟩ s1 H1 φ1 N1 a1 (w1.putObj B (.loop rb)):=⟨hR2,fun t=>hra2 _ _ (hI1.tmps t),hI1.since.both hBlt _,hI1.size,gW.refl⟩
 refine wpIn_mono (ihy (fun e=>by rw[hh]at e;cases e) hRb _ hI2 hq) ?_
 rintro e a2 w3 ⟨ax2,s2,H2,φ2,N2,rfl,⟨s3,H4,hW,hl4,hq2⟩,hI3⟩
 obtain⟨φ3,N3,hI4⟩:=hW.ok hRb hI3
 have hb4:w3.heap[B]?=some (.loop rb):=(hI4.since.cw B (by rw[World.putObj_size];exact hBlt) hBout).trans (World.putObj_heap_same hBlt)
 have hBout4:∀id c',id<H4.length→φ3 id≠some (B,c'):=fun id c' hid hp=>by
  obtain⟨id0,c0,h1,h2⟩:=hI4.since.own id B c' hid hp (by rw[World.putObj_size];exact hBlt)
  exact hBout id0 c0 h1 h2
 have fin:∀(jump:Option Code),∃r4 w4,(Instr.endRound B jump).run P w3= .ok (.bool jump.isNone) w4∧r4={r with state:=if jump.isNone then .ready else .done,pending:=jump}∧
   ∃φ',Rel (H4++ .lp r4 s0::T) φ' N3 w4∧ar (Hk++ .lp r s0::T) φ N w (H4++ .lp r4 s0::T) φ' N3 w4:=by
  intro jump
  have hend:=run_endRound (P:=P) jump hb4
  obtain⟨hR5,_⟩:=hI4.rel.put (o':= .loop {rb with state:=if jump.isNone then .ready else .done,pending:=jump}) hb4 (fun _ _ _ e=>by cases e) hBout4
  have hX:=hI4.since.Hy.put (.loop {rb with state:=if jump.isNone then .ready else .done,pending:=jump})
  have hb5:(w3.putObj B (.loop {rb with state:=if jump.isNone then .ready else .done,pending:=jump})).heap[B]?=some (.loop {rb with state:=if jump.isNone then .ready else .done,pending:=jump}):=World.putObj_heap_same (Array.getElem?_eq_some_iff.1 hb4).1
  obtain⟨φ',hR6,hS6⟩:=A2 hR hB hX hR5 hl4 hb5 (by rw[←hrb])
  exact⟨_,_,hend,by rw[←hrb],φ',hR6,hS6⟩
 have hob4:=hI4.rel.Gc
 have stop:∀c,Ix ax2 H4→AX.jump ax2=some c→∃v w4,(Instr.endRound B (some c)).run P w3= .ok v w4∧∃b H' φ' N',Ending.returned v= .returned (.bool b)∧
   (if b=true then ∃Hk',(In Hk'∧jG Hk'.length Hk'∧Hk'.length=Hk.length)∧H'=Hk'++ .lp r s0::T else ∃Hk' c,(∃e,AX.jump e=some c∧Ix e Hk'∧jG Hk'.length Hk')∧jG Hk.length Hk'∧Hk'.length=Hk.length∧H'=Hk'++ .lp (p3 r c) s0::T)∧Rel H' φ' N' w4∧ar (Hk++ .lp r s0::T) φ N w H' φ' N' w4:=by
  intro c hix hj
  obtain⟨r4,w4,hend,hr4,φ',hR6,hS6⟩:=fin (some c)
  refine⟨_,w4,hend,false,_,φ',N3,rfl,?_,hR6,hS6⟩
  rw[if_neg (by simp)]
  exact⟨H4,c,⟨ax2,hj,hix,hob4⟩,by rw[←hl4];exact hob4,hl4,by rw[hr4];rfl⟩
 cases ax2 with
 |normal=>
  obtain⟨r4,w4,hend,hr4,φ',hR6,hS6⟩:=fin none
  refine⟨_,w4,hend,true,_,φ',N3,rfl,?_,hR6,hS6⟩
  show(if true=true then _ else _)
  rw[if_pos rfl]
  refine⟨H4,⟨hq2,hob4,hl4⟩,?_⟩
  have:r4=r:=by
   rw[hr4]
   cases r
   simp only at hrs hrp
   subst hrs hrp
   rfl
  rw[this]
 |ret=>exact stop .ret hq2 rfl
 |exit id=>exact stop (.exit id) hq2 rfl
 |panic v=>exact hq2.elim
theorem Bd{P:Program}{n:Nat}{x y:Code}{g:Operand}{ps:Array Tmp}{H0:aa}{φ0:aI}{N0:Addr→Prop}{w0:World}{ds:DS}(hmk:ds.marks=true)(hR0:Rel H0 φ0 N0 w0)
  (ihx:∀{l:Nat} {hint:Nat→Bool} {H0:aa} {φ0:aI} {N0:Addr→Prop} {w0:World} {ds:DS} (hmk:hint 2000000=true→ds.marks=true∧Fence.wide.inRound l=Fence.wide) (hR0:Rel H0 φ0 N0 w0) (Q:aQ) {s:Nat→AV} {H:aa} {φ:aI} {N:Addr→Prop} {a:Act} {w:World},Inv H0 φ0 N0 w0 n ds s H φ N a w→cq P hint n H0 x Q s H→x.wpIn (Fence.wide.inRound l) 0 P (jf H0 φ0 N0 w0 n ds Q) a w)
  (ihy:∀{l:Nat} {hint:Nat→Bool} {H0:aa} {φ0:aI} {N0:Addr→Prop} {w0:World} {ds:DS} (hmk:hint 2000000=true→ds.marks=true∧Fence.wide.inRound l=Fence.wide) (hR0:Rel H0 φ0 N0 w0) (Q:aQ) {s:Nat→AV} {H:aa} {φ:aI} {N:Addr→Prop} {a:Act} {w:World},Inv H0 φ0 N0 w0 n ds s H φ N a w→cq P hint n H0 y Q s H→y.wpIn (Fence.wide.inRound l) 0 P (jf H0 φ0 N0 w0 n ds Q) a w)
  {Q:aQ} {s:Nat→AV} {H:aa} {φ:aI} {N:Addr→Prop} {a:Act} {w:World} (hI:Inv H0 φ0 N0 w0 n ds s H φ N a w)
  (h:∃(hint':Nat→Bool) (gf:FuncId) (caps:List AV) (xs:List (List AV)) (C:aa→Prop) (I:Nat→aa→Prop) (Ix:AX→aa→Prop) (s0:Nat→AV) (H1:aa),
   hint' 2000000=false∧an H0 s H s0 H1∧ai s0 g= .fn gf caps∧oe P gf caps C xs∧(∀v∈xs,v.length=ps.size∧∀u∈v,iG H1.length u)∧I 0 H1∧(∀k Hk,I k Hk→C Hk∧Hk.length=H1.length)∧
   (∀k (hk:k<xs.length) Hk,I k Hk→cq P hint' n Hk x (fun e s1 H2=>match e with
    | .normal=>cq P hint' n Hk y (fun e s2 H3=>∃s3 H4,an Hk s2 H3 s3 H4∧H4.length=H1.length∧(match e with| .normal=>I (k+1) H4| .panic _=>False|e=>Ix e H4)) s1 H2
    |_=>False) (gK n s0 ps.toList (xs[k])) Hk)∧
   (∀Hn,I xs.length Hn→Q .normal s0 Hn)∧∀e Hx,Ix e Hx→Q e s0 Hx):
  (Code.rangeFunc g ps x y).wpIn Fence.wide 0 P (jf H0 φ0 N0 w0 n ds Q) a w:=by
 obtain⟨hint',gf,caps,xs,C,I,Ix,s0,H1,hh,hW,hg,hseq,hxs,h0,hIC,hround,hdone,hstop⟩:=h
 obtain⟨φ1,N1,hI1⟩:=hW.ok hR0 hI
 have hgv:=aq hI1.tmps g
 rw[hg]at hgv
 generalize hge:a.eval g=gv at hgv
 cases hgv with
 |fn _ _ vs hcl hcv=>
 refine wpIn_rangeFunc fun fn _=>?_
 have hlt0:w0.heap.size≤w.heap.size:=hI1.since.size
 let r:Loop:={state:= .ready,pending:=none,fn:=fn,tmps:=a.tmps,params:=ps,assign:=x,body:=y,defers:=w.heap.size}
 have hRd:Rel H1 φ1 N1 (w.alloc (.deferred (some [])))∧ar H1 φ1 N1 w H1 φ1 N1 (w.alloc (.deferred (some []))):=by
  have hS:=ar.fixed hI1.rel (.deferred (some [])) N1 (fun _ h=>h) (fun _ h=> .inl h)
  exact⟨hI1.rel.off (fun id B c hid hp=>Below.heap_alloc w _ B (hI1.rel.bZ hid hp)) fun a v _ hv=>by
   rw[World.cell?_of_block (w:=w) (Below.heap_alloc w _ _ (World.block_lt_of_cell? w a hv))];exact hv,hS⟩
 obtain⟨hRd,hSd⟩:=hRd
 have hDd:(w.alloc (.deferred (some []))).heap[w.heap.size]?=some (.deferred (some [])):=World.alloc_heap_new w _
 have hSl:=ar.new hRd (.loop r) (.lp r s0) 0
 have hts1:∀t,RA (H1++[.lp r s0]) (φ1.put H1.length (some ((w.alloc (.deferred (some []))).heap.size,0))) N1 ((w.alloc (.deferred (some []))).alloc (.loop r)) (s0 t) (r.tmps.getD t undef):=fun t=>((hI1.tmps t).since hI1.rel hSd).since hRd hSl
 have hRl:=hRd.new (.loop r) (.lp r s0) 0 (.lp r s0 _ 0 (aI.aC _ _ _) (World.alloc_heap_new _ _) hts1)
 have hDl:((w.alloc (.deferred (some []))).alloc (.loop r)).heap[w.heap.size]?=some (.deferred (some [])):=(Below.heap_alloc _ _ _ (by simp)).trans hDd
 have hSw:=hSd.trans hSl
 have hDout1:∀id c,id<(H1++[aA.lp r s0]).length→(φ1.put H1.length (some ((w.alloc (.deferred (some []))).heap.size,0))) id≠some (w.heap.size,c):=by
  intro id c hid hp
  by_cases e:id=H1.length
  ·subst e
   rw[aI.aC]at hp
   have:=(Prod.mk.inj (Option.some.inj hp)).1
   simp at this
  ·rw[aI.aS _ _ _ _ e]at hp
   have:=hI1.rel.bZ (by simp at hid;omega) hp
   omega
 have hpl:(φ1.put H1.length (some ((w.alloc (.deferred (some []))).heap.size,0))) H1.length=some (w.heap.size+1,0):=by rw[aI.aC];simp
 have henter:=run_enterLoop_outer (P:=P) (w:=w) fn a.tmps ps x y
 have hsz1:(w.alloc (.deferred (some []))).heap.size=w.heap.size+1:=by simp
 generalize (φ1.put H1.length (some ((w.alloc (.deferred (some []))).heap.size,0)))=φ2 at*
 have hB:∃W1,(w.alloc (.deferred (some []))).alloc (.loop r)=W1:=⟨_,rfl⟩
 obtain⟨W1,hW1⟩:=hB
 have henter':(Instr.enterLoop fn a.tmps ps x y none).run P w= .ok (w.heap.size+1,[{target:= .collected w.heap.size,args:=#[]}]) W1:=by rw[←hW1];exact henter
 rw[hW1]at hRl hDl hSw hts1
 clear henter hW1 hSl hRd hSd hDd
 have hbelS:∀t,iG H1.length (s0 t):=fun t=>(hI1.tmps t).bel
 have hlen1:(H1++[aA.lp r s0]).length=H1.length+1:=by simp
 have hcall:=hseq r s0 (fun k Hk=>I k Hk∧jG Hk.length Hk∧Hk.length=H1.length) (fun c Hx=>∃e,AX.jump e=some c∧Ix e Hx∧jG Hx.length Hx) H1.length H1 ⟨h0,hI1.rel.Gc,rfl⟩ hbelS (fun k Hk hk=>⟨(hIC k Hk hk.1).1,by rw[←hk.2.2];exact hk.2.1,hk.2.2⟩)
  (fun k hk Hk T hJ=>zK (P:=P) hh ihx ihy hJ.2.2 hJ.2.1 (fun t=>by rw[hJ.2.2];exact hbelS t) rfl rfl rfl rfl hI1.size (hxs _ (List.getElem_mem hk)).1 (fun v hv=>by rw[hJ.2.2];exact(hxs _ (List.getElem_mem hk)).2 v hv) (hround k hk Hk hJ.1))
 have hyl:RA (H1++[.lp r s0]) φ2 N1 W1 (.gl H1.length) (.func (.yield (w.heap.size+1)) #[] #[]):= .gl _ _ (.lp r s0) (by simp) fun _=>⟨0,hpl⟩
 have hargs:oG (H1++[.lp r s0]) φ2 N1 W1 (.gl H1.length::caps) (#[.func (.yield (w.heap.size+1)) #[] #[]]++vs):=by
  refine⟨by simp[hcl];omega,fun i h1 h2=>?_⟩
  cases i with
  |zero=>simpa using hyl
  |succ i=>
   rw[Array.getElem_append_right (by simp)]
   simp only[List.getElem_cons_succ]
   have:=(hcv i (by simp at h1;omega) (by simp at h2;omega)).since hI1.rel hSw
   simpa using this
 obtain⟨hrun,hC⟩:=hcall φ2 N1 W1 _ hRl hargs
 refine⟨w.heap.size+1,[{target:= .collected w.heap.size,args:=#[]}],W1,{target:= .fn (.func gf) vs,args:=#[.func (.yield (w.heap.size+1)) #[] #[]]},W1,gf,
  #[.func (.yield (w.heap.size+1)) #[] #[]]++vs,W1,henter',?_,fun _ _=>trivial,?_,fun h=>(by cases h),?_⟩
 ·simp only[resolve,hge]
  simp[go_sem,Deferred.ofValue]
 ·simpa[invoke]using hrun
 refine callsIn_wide.2 (Calls.mono hC ?_)
 rintro e w3 ⟨res,G,φ3,N3,⟨rfl,hG⟩,hR3,hS3,hE⟩
 cases e with
 |panicked ch=>exact hE.elim
 |outgrown=>exact hE.elim
 |returned v=>
 have fin:∀(Hn:aa) (r':Loop),G=Hn++[.lp r' s0]→jG Hn.length Hn→Hn.length=H1.length→r'.state≠ .busy→∃w4,(Instr.endLoop (w.heap.size+1)).run P w3= .ok r'.pending w4∧
   ∃φ' N',Inv H0 φ0 N0 w0 n ds s0 Hn φ' N' {a with defers:=[{target:= .collected w.heap.size,args:=#[]}]++a.defers} w4:=by
  rintro Hn r' rfl hbel hlen hbusy
  have hlp3:(Hn++[aA.lp r' s0])[Hn.length]?=some (.lp r' s0):=by simp
  have hp3:φ3 Hn.length=some (w.heap.size+1,0):=by
   obtain⟨o',ho',_,_,hq,_⟩:=hS3.bI H1.length (.lp r s0) (by simp)
   rw[←hlen,hlp3]at ho'
   cases ho'
   rw[←hpl,hlen]
   exact(hq rfl).1
  cases hR3.obj _ _ hlp3 with
  |lp _ _ B c hp hb hts=>
  rw[hp3]at hp
  obtain⟨rfl,rfl⟩:=Prod.mk.inj (Option.some.inj hp)
  have hend:=run_endLoop (P:=P) hb hbusy
  refine⟨_,hend,φ3,N3,?_⟩
  generalize hro:({r' with state:= .exhausted}:Loop)=ro
  have hRn:=hR3.pre hbel
  have hBout:∀id c',id<Hn.length→φ3 id≠some (w.heap.size+1,c'):=fun id c' hid hp=>by
   have:=hR3.inj id Hn.length _ c' 0 (by simp;omega) (by simp) hp hp3
   omega
  obtain⟨hRf,hraf⟩:=hRn.put (o':= .loop ro) hb (fun _ _ _ e=>by cases e) hBout
  have hSall:ar H0 φ0 N0 w0 (Hn++[.lp r' s0]) φ3 N3 w3:=(hI1.since.trans hSw).trans hS3
  have hSn:=((hSall.pre (by rw[hlen];exact hI1.since.len)).x (w.heap.size+1)).put (.loop ro)|>.since (by omega)
  have hDlt:w.heap.size<W1.heap.size:=(Array.getElem?_eq_some_iff.1 hDl).1
  refine⟨hRf,fun t=>hraf _ _ ((((hI1.tmps t).since hI1.rel (hSw.trans hS3))).pre (by rw[hlen];exact hbelS t)),hSn,hI1.size,?_⟩
  obtain⟨ms,hms,_,hmarks⟩:=hI1.defers
  refine⟨{target:= .collected w.heap.size,args:=#[]}::ms,by simp[hms],fun e=>(by rw[hmk]at e;cases e),⟨w.heap.size,hlt0,rfl,?_,?_,?_⟩,?_⟩
  ·rw[World.putObj_heap_other (by omega)]
   exact(hS3.cw _ hDlt hDout1).trans hDl
  ·intro id c hid hp
   obtain⟨id0,c0,g1,g2⟩:=hS3.own id _ c (by simp;omega) hp hDlt
   exact hDout1 id0 c0 g1 g2
  ·intro d' hd' e
   have key:∀{ds:List Deferred},Marks w0.heap.size H1 φ1 w ds→∀d∈ds,∃D,D<w.heap.size∧d={target:= .collected D,args:=#[]}:=by
    intro ds
    induction ds with
    |nil=>intro _ d hd;cases hd
    |cons d0 ds ih=>
     rintro⟨⟨D,_,h1,h2,_⟩,h3⟩ d hd
     rcases List.mem_cons.1 hd with rfl|hd
     ·exact⟨D,(Array.getElem?_eq_some_iff.1 h2).1,h1⟩
     ·exact ih h3 d hd
   obtain⟨D,hD,hd2⟩:=key hmarks d' hd'
   rw[hd2]at e
   have:D=w.heap.size:=by injection e with e1;injection e1
   omega
  ·refine hmarks.mono fun D hD _ _ hn=>⟨?_,fun id c hid hp=>?_⟩
   ·rw[World.putObj_heap_other (by omega)]
    exact(hSw.trans hS3).cw D hD hn
   ·obtain⟨id0,c0,g1,g2⟩:=(hSw.trans hS3).own id D c (by simp;omega) hp hD
    exact hn id0 c0 g1 g2
 rcases hG with⟨Hn,⟨hIn,hbel,hlen⟩,hG⟩|⟨Hx,c,⟨ax,hj,hix,hbel⟩,hlen,hG⟩
 ·obtain⟨w4,hend,φ',N',hIf⟩:=fin Hn r hG hbel hlen (by simp[r])
  exact⟨none,w4,hend,.normal,s0,Hn,φ',N',rfl,hdone Hn hIn,hIf⟩
 ·obtain⟨w4,hend,φ',N',hIf⟩:=fin Hx (p3 r c) hG hbel hlen (by simp[p3])
  refine⟨some c,w4,hend,?_⟩
  cases ax with
  |normal=>cases hj
  |panic v=>cases hj
  |ret=>cases hj;exact wpIn_ret ⟨.ret,s0,Hx,φ',N',rfl,hstop _ Hx hix,hIf⟩
  |exit id=>cases hj;exact wpIn_exit ⟨.exit id,s0,Hx,φ',N',rfl,hstop _ Hx hix,hIf⟩
theorem xj:∀(c:Code) {F:Fence} (hF:dd F) {hint:Nat→Bool} {H0:aa} {φ0:aI} {N0:Addr→Prop} {w0:World} {ds:DS} (hmk:hint 2000000=true→ds.marks=true∧F=Fence.wide) (hR0:Rel H0 φ0 N0 w0) (Q:aQ) {s:Nat→AV} {H:aa} {φ:aI} {N:Addr→Prop} {a:Act} {w:World},
  Inv H0 φ0 N0 w0 n ds s H φ N a w→cq P hint n H0 c Q s H→c.wpIn F 0 P (jf H0 φ0 N0 w0 n ds Q) a w:=by
 intro c
 induction c with
 |skip=>exact fun hF _ _ _ _ _ _ hmk hR0 Q s H φ N a w hI h=>wpIn_skip ⟨.normal,s,H,φ,N,rfl,h,hI⟩
 |label l=>exact fun hF _ _ _ _ _ _ hmk hR0 Q s H φ N a w hI h=>wpIn_label ⟨.normal,s,H,φ,N,rfl,h,hI⟩
 |region id ops draw=>
  intro F hF hint H0 φ0 N0 w0 ds hmk hR0 Q s H φ N a w hI h
  cases draw with
  |false=>
   have h':aM P hint n ops Q ops.toList s H:=h
   refine wpIn_region ?_
   have:=m7 hF ops.toList 0 (fun j=>by simp) hI h'
   rw[List.range_eq_range']
   simpa using this
  |true=>
   obtain⟨hm,h'⟩:P.follows .mixedOrders=true∧eN P hint n ops Q ops.size (Array.replicate ops.size false) s H:=h
   refine wpIn_region_any hm ?_
   have hI':Inv H0 φ0 N0 w0 n ds s H φ N a {w with drawn:=w.drawn+1}:=
    ⟨hI.rel.drawn rfl rfl rfl rfl,fun t=>RA.since hI.rel (ar.drawn (w':={w with drawn:=w.drawn+1}) rfl rfl rfl rfl) (hI.tmps t),hI.since.trans (ar.drawn rfl rfl rfl rfl),hI.size,gW.mono (w:=w) (w':={w with drawn:=w.drawn+1}) (fun D _ _ _ hn=>⟨rfl,hn⟩) hI.defers⟩
   exact lh hF _ _ hI' h'
 |seq x y ihx ihy=>
  intro F hF hint H0 φ0 N0 w0 ds hmk hR0 Q s H φ N a w hI h
  refine wpIn_seq (wpIn_mono (ihx hF hmk hR0 _ hI h) ?_)
  rintro e a' w' ⟨ax,s',H',φ',N',rfl,hq,hI'⟩
  cases ax with
  |normal=>
   have hq:if c4 hint y=true then ∃s'' H'',an H0 s' H' s'' H''∧cq P hint n H0 y Q s'' H'' else cq P hint n H0 y Q s' H':=hq
   split at hq
   ·obtain⟨s'',H'',hW,hq⟩:=hq
    obtain⟨φ1,N1,hI1⟩:=hW.ok hR0 hI'
    exact ihy hF hmk hR0 Q hI1 hq
   ·exact ihy hF hmk hR0 Q hI' hq
  |exit id=>exact⟨.exit id,s',H',φ',N',rfl,hq,hI'⟩
  |ret=>exact⟨.ret,s',H',φ',N',rfl,hq,hI'⟩
  |panic v=>exact⟨.panic v,s',H',φ',N',rfl,hq,hI'⟩
 |cond c x y ihx ihy=>
  intro F hF hint H0 φ0 N0 w0 ds hmk hR0 Q s H φ N a w hI h
  unfold cq at h
  split at h
  ·rename_i b hb
   have hv:=(show RA H φ N w (.d (.v (.bool b))) (a.eval c)from by rw[←hb];exact aq hI.tmps c).closed
   cases b with
   |true=>exact wpIn_cond_true hv (ihx hF hmk hR0 Q hI (by simpa using h))
   |false=>exact wpIn_cond_false hv (ihy hF hmk hR0 Q hI (by simpa using h))
  ·exact h.elim
 |block id x ih=>
  intro F hF hint H0 φ0 N0 w0 ds hmk hR0 Q s H φ N a w hI h
  refine wpIn_block (wpIn_mono (ih hF hmk hR0 _ hI h) ?_)
  rintro e a' w' ⟨ax,s',H',φ',N',rfl,hq,hI'⟩
  cases ax with
  |normal=>exact⟨.normal,s',H',φ',N',rfl,hq,hI'⟩
  |exit i=>
   simp only[AX.Ar,Exit.inBlock]
   have hq:if i=id then Q .normal s' H' else Q (.exit i) s' H':=hq
   by_cases hi:i=id
   ·rw[if_pos hi]
    rw[if_pos hi]at hq
    exact⟨.normal,s',H',φ',N',rfl,hq,hI'⟩
   ·rw[if_neg hi]
    rw[if_neg hi]at hq
    exact⟨.exit i,s',H',φ',N',rfl,hq,hI'⟩
  |ret=>exact⟨.ret,s',H',φ',N',rfl,hq,hI'⟩
  |panic v=>exact⟨.panic v,s',H',φ',N',rfl,hq,hI'⟩
 |scope x ih=>
  intro F hF hint H0 φ0 N0 w0 ds hmk hR0 Q s H φ N a w hI h
  refine vu (wpIn_mono (ih hF hmk hR0 _ hI h) ?_)
  rintro e a' w' ⟨ax,s',H',φ',N',rfl,hq,hI'⟩
  cases ax with
  |normal=>exact⟨.normal,s',H',φ',N',rfl,hq,hI'⟩
  |exit i=>exact⟨.exit i,s',H',φ',N',rfl,hq,hI'⟩
  |ret=>exact⟨.ret,s',H',φ',N',rfl,hq,hI'⟩
  |panic v=>exact⟨.panic v,s',H',φ',N',rfl,hq,hI'⟩
 |loop x ih=>
  intro F hF hint H0 φ0 N0 w0 ds hmk hR0 Q s H φ N a w hI h
  obtain⟨I,m,⟨s1,H1,hW,h1⟩,hstep⟩:=h
  obtain⟨φ1,N1,hI1⟩:=hW.ok hR0 hI
  refine r8 (fun m a w=>∃s H φ N,I m s H∧Inv H0 φ0 N0 w0 n ds s H φ N a w) (n:=m) ?_ ⟨s1,H1,φ1,N1,h1,hI1⟩
  rintro m a w ⟨s,H,φ,N,hIm,hI⟩
  refine wpIn_mono (ih hF hmk hR0 _ hI (hstep m s H hIm)) ?_
  rintro e a' w' ⟨ax,s',H',φ',N',rfl,hq,hI'⟩
  cases ax with
  |normal=>
   obtain⟨s2,H2,m',hW2,hm,hlt⟩:=hq
   obtain⟨φ2,N2,hI2⟩:=hW2.ok hR0 hI'
   exact⟨m',hlt,s2,H2,φ2,N2,hm,hI2⟩
  |exit i=>exact⟨.exit i,s',H',φ',N',rfl,hq,hI'⟩
  |ret=>exact⟨.ret,s',H',φ',N',rfl,hq,hI'⟩
  |panic v=>exact⟨.panic v,s',H',φ',N',rfl,hq,hI'⟩
 |exit id=>exact fun hF _ _ _ _ _ _ hmk hR0 Q s H φ N a w hI h=>wpIn_exit ⟨.exit id,s,H,φ,N,rfl,h,hI⟩
 |ret=>exact fun hF _ _ _ _ _ _ hmk hR0 Q s H φ N a w hI h=>wpIn_ret ⟨.ret,s,H,φ,N,rfl,h,hI⟩
 |rangeFunc g ps x y ihx ihy=>
  intro F hF hint H0 φ0 N0 w0 ds hmk hR0 Q s H φ N a w hI h
  obtain⟨hm,h⟩:=h
  obtain⟨hmk1,rfl⟩:=hmk hm
  exact Bd hmk1 hR0 (fun hmk' hR=>ihx (.inr ⟨_,rfl⟩) hmk' hR) (fun hmk' hR=>ihy (.inr ⟨_,rfl⟩) hmk' hR) hI h
 |_=>intros;rename_i h;exact h.elim
theorem C9(hmk:hint 2000000=true→ds.marks=true)(hR0:Rel H0 φ0 N0 w0)(c:Code)(Q:aQ){s:Nat→AV}{H:aa}{φ:aI}{N:Addr→Prop}{a:Act}{w:World}(hI:Inv H0 φ0 N0 w0 n ds s H φ N a w)(h:cq P hint n H0 c Q s H):c.wp P (jf H0 φ0 N0 w0 n ds Q) a w:=
 wpIn_wide.1 (xj c (.inl rfl) (fun h=>⟨hmk h,rfl⟩) hR0 Q hI h)
def iX(rs:List Tmp)(s:Nat→AV):AV:=
 match rs with
 |[t]=>s t
 |l=> .bq (l.map s)
def ao(rs:List Tmp)(H0:aa)(res:lK)(H':aa):aQ:=fun e s H=>
 match e with
 | .normal=>∃s',an H0 s H s' H'∧res= .ok (iX rs s')
 | .ret=>∃s',an H0 s H s' H'∧res= .ok (iX rs s')
 | .panic v=>∃s',an H0 s H s' H'∧res= .panic v
 |_=>False
def ji(args:List AV):Nat→AV:=fun t=>args.getD t .top
def uS(tmps:Array Value):List Tmp→Value
 |[t]=>tmps.getD t undef
 |l=> .tuple (l.map fun t=>tmps.getD t undef).toArray
theorem jd{fn:Func}(rs:List Tmp)(h:fn.results.toList=rs.map .tmp)(hl:rs.length≤4)(tmps:Array Value)(w:World):
  (results fn tmps).run P w= .ok (uS tmps rs) w:=by
 have h':fn.results=(rs.map .tmp).toArray:=by rw[←h]
 match rs,hl,h' with
 |[],_,h'=>simp[results,h',uS]
 |[_],_,h'=>simp[results,h',uS]
 |[_,_],_,h'=>simp[results,h',uS]
 |[_,_,_],_,h'=>simp[results,h',uS]
 |[_,_,_,_],_,h'=>simp[results,h',uS]
 |_::_::_::_::_::_,hl,_=>simp at hl
theorem fa{f:FuncId}{fn:Func}(hf:P.funcs[f]?=some fn)(hn:(fn.name== "runtime.NumGoroutine")=false)(hb:fn.body.isSome=true)(vals:Array Value)(w:World):(callFunc f vals).run P w= .ok (.enter f vals) w:=by
 have h1:fn.name≠ "runtime.NumGoroutine" :=by simpa using hn
 have h2:fn.body≠none:=by intro h;rw[h]at hb;cases hb
 simp[callFunc,hf,h1,h2]
theorem eS{fn:Func}{R:Ending→World→Prop}{u:FrameMode}(hu:u≠ .run){s:Nat→AV}{H:aa}{φ:aI}{N:Addr→Prop}{tmps:Array Value}:∀(ms:List Deferred) {w:World},Inv H0 φ0 N0 w0 n ⟨true,[]⟩ s H φ N {tmps:=tmps,defers:=ms} w→
  (∀w',Inv H0 φ0 N0 w0 n ⟨true,[]⟩ s H φ N {tmps:=tmps,defers:=[]} w'→LeavesInM Fence.wide 0 P fn tmps R [] u w')→LeavesInM Fence.wide 0 P fn tmps R ms u w
 |[],w,hI,h=>h w hI
 |d::ms,w,hI,h=>by
  obtain⟨ms',hms,_,hmk⟩:=hI.defers
  rw[List.append_nil]at hms
  have hms:d::ms=ms':=hms
  subst hms
  obtain⟨⟨D,h0,h1,h2,h3,h4⟩,h5⟩:=hmk
  refine⟨hu,.inl ⟨D,w.putObj D (.deferred none),by rw[h1],run_takeDeferred h2,eS hu ms ?_ h⟩⟩
  obtain⟨hR,hra⟩:=hI.rel.put (o':= .deferred none) h2 (fun _ _ _ e=>by cases e) h3
  refine⟨hR,fun t=>hra _ _ (hI.tmps t),((hI.since.x D).put _).since h0,hI.size,⟨ms,by simp,fun e=>(by cases e),?_⟩⟩
  have key:∀{ds:List Deferred},(∀d'∈ds,d'≠d)→Marks w0.heap.size H φ w ds→Marks w0.heap.size H φ (w.putObj D (.deferred none)) ds:=by
   intro ds
   induction ds with
   |nil=>exact fun _ _=>trivial
   |cons d1 ds ih=>
    rintro hne ⟨⟨D1,g0,g1,g2,g3,g4⟩,g5⟩
    refine⟨⟨D1,g0,g1,?_,g3,g4⟩,ih (fun d' hd'=>hne d' (List.mem_cons_of_mem _ hd')) g5⟩
    rw[World.putObj_heap_other fun e=>hne d1 (List.mem_cons_self ..) (by rw[g1,h1,e])]
    exact g2
  exact key h4 h5
theorem oG.init{H:aa}{φ:aI}{N:Addr→Prop}{w:World}{args:List AV}{vals:Array Value}(h:oG H φ N w args vals)(n:Nat):bF H φ N w (ji args) {tmps:=vals++Array.replicate (n-vals.size) undef,defers:=[]}:=by
 intro t
 simp only[ji]
 by_cases ht:t<args.length
 ·have ht':t<vals.size:=by rw[←h.1];exact ht
  have:=h.2 t ht ht'
  have e1:args.getD t .top=args[t]:=by simp[List.getD,ht]
  have e2:(vals++Array.replicate (n-vals.size) undef).getD t undef=vals[t]:=by
   rw[Array.getD_eq_getD_getElem?,Array.getElem?_append_left ht'];simp[ht']
  rw[e1,e2]
  exact this
 ·have e1:args.getD t .top= .top:=by simp[List.getD,List.getElem?_eq_none (Nat.le_of_not_lt ht)]
  rw[e1]
  exact .top _
theorem BD{s:Nat→AV}{H:aa}{φ:aI}{N:Addr→Prop}{a:Act}{w:World}(hI:Inv H0 φ0 N0 w0 n ⟨true,[]⟩ s H φ N a w):Inv H0 φ0 N0 w0 n ⟨true,[]⟩ s H φ N {tmps:=a.tmps,defers:=[]} w:=
 ⟨hI.rel,hI.tmps,hI.since,hI.size,gW.refl⟩
theorem gJ{f:FuncId}{fn:Func}{body:Code}(hf:P.funcs[f]?=some fn)(hb:fn.body=some body){args:List AV}{H:aa}{Q:aQ}(ha:args.length≤fn.ntmps)(h:cq P hint fn.ntmps H body Q (ji args) H)
  {φ:aI} {N:Addr→Prop} {w:World} {vals:Array Value} (hR:Rel H φ N w) (hA:oG H φ N w args vals) {R:Ending→World→Prop}
  (hend:∀{e s' H1 φ1 N1 tmps w'},Inv H φ N w fn.ntmps ⟨true,[]⟩ s' H1 φ1 N1 {tmps:=tmps,defers:=[]} w'→Q e s' H1→match e with
   | .normal| .ret=>∃v,(results fn tmps).run P w'= .ok v w'∧R (.returned v) w'
   | .panic v=>R (.panicked [{v:=v,recovered:=false}]) w'
   |_=>False):Calls P f vals w R:=by
 refine callsIn_wide.1 (callsIn_of_wp_marks (n:=0) (F:=Fence.wide) hf hb trivial ?_)
 have hI:Inv H φ N w fn.ntmps ⟨true,[]⟩ (ji args) H φ N {tmps:=vals++Array.replicate (fn.ntmps-vals.size) undef,defers:=[]} w:=
  ⟨hR,hA.init _,ar.refl,by simp;have:=hA.1;omega,gW.refl⟩
 refine wpIn_mono (xj body (.inl rfl) (fun _=>⟨rfl,rfl⟩) hR _ hI h) ?_
 rintro e a' w' ⟨ax,s',H1,φ1,N1,rfl,hq,hI1⟩
 cases ax with
 |normal=>exact eS (by simp) a'.defers hI1 fun w2 hI2=>hend hI2 hq
 |ret=>exact eS (by simp) a'.defers hI1 fun w2 hI2=>hend hI2 hq
 |exit i=>exact(hend (e:= .exit i) (tmps:=a'.tmps) (w':=w') (BD hI1) hq).elim
 |panic v=>exact eS (by simp) a'.defers hI1 fun w2 hI2=>hend hI2 hq
theorem wT{s:Nat→AV}{H:aa}{φ:aI}{N:Addr→Prop}{tmps:Array Value}{w:World}(h:∀t,RA H φ N w (s t) (tmps.getD t undef))(rs:List Tmp):RA H φ N w (iX rs s) (uS tmps rs):=by
 have many:∀l:List Tmp,RA H φ N w (.bq (l.map s)) (.tuple (l.map fun t=>tmps.getD t undef).toArray):=fun l=> .bq _ _ (by simp) fun i h1 h2=>by simpa using h _
 match rs with
 |[]=>exact many []
 |[t]=>exact h t
 |t::u::l=>exact many (t::u::l)
theorem ah.aj{f:FuncId}{fn:Func}{body:Code}(hf:P.funcs[f]?=some fn)(hn:(fn.name== "runtime.NumGoroutine")=false)(hb:fn.body=some body)(rs:List Tmp)(hr:fn.results.toList=rs.map .tmp)(hl:rs.length≤4)
  {args:List AV} {H:aa} {res:lK} {H':aa} (ha:args.length≤fn.ntmps) (h:cq P hint fn.ntmps H body (ao rs H res H') (ji args) H):ah P f args H res H':=by
 intro φ N w vals hR hA
 refine .inl ⟨fa hf hn (by rw[hb];rfl) vals w,gJ hf hb ha h hR hA ?_⟩
 intro e s' H1 φ1 N1 tmps w' hI1 hq
 have fin:∀(s'':Nat→AV),an H s' H1 s'' H'→res= .ok (iX rs s'')→∃v,(results fn tmps).run P w'= .ok v w'∧∃φ' N',Rel H' φ' N' w'∧ar H φ N w H' φ' N' w'∧qx H' φ' N' w' res (.returned v):=by
  intro s'' hW hres
  obtain⟨φ2,N2,hI2⟩:=hW.ok hR hI1
  refine⟨_,jd rs hr hl _ _,φ2,N2,hI2.rel,hI2.since,?_⟩
  subst hres
  exact wT hI2.tmps rs
 cases e with
 |normal=>
  obtain⟨s'',hW,hres⟩:=hq
  exact fin s'' hW hres
 |ret=>
  obtain⟨s'',hW,hres⟩:=hq
  exact fin s'' hW hres
 |exit i=>exact hq.elim
 |panic v=>
  obtain⟨s'',hW,rfl⟩:=hq
  obtain⟨φ2,N2,hI2⟩:=hW.ok hR hI1
  exact⟨φ2,N2,hI2.rel,hI2.since,rfl⟩
def E3(rs:List Tmp)(H0:aa)(R:lK→aa→Prop):aQ:=fun e s H=>
 match e with
 | .normal=>∃s' H',an H0 s H s' H'∧R (.ok (iX rs s')) H'
 | .ret=>∃s' H',an H0 s H s' H'∧R (.ok (iX rs s')) H'
 |_=>False
theorem pt.aj{f:FuncId}{fn:Func}{body:Code}(hf:P.funcs[f]?=some fn)(hn:(fn.name== "runtime.NumGoroutine")=false)(hb:fn.body=some body)(rs:List Tmp)(hr:fn.results.toList=rs.map .tmp)(hl:rs.length≤4)
  {args:List AV} {H:aa} {R:lK→aa→Prop} (ha:args.length≤fn.ntmps) (h:cq P hint fn.ntmps H body (E3 rs H R) (ji args) H):pt P f args H R:=by
 intro φ N w vals hR hA
 refine⟨fa hf hn (by rw[hb];rfl) vals w,gJ hf hb ha h hR hA ?_⟩
 intro e s' H1 φ1 N1 tmps w' hI1 hq
 have fin:∀(s'':Nat→AV) H',an H s' H1 s'' H'→R (.ok (iX rs s'')) H'→∃v,(results fn tmps).run P w'= .ok v w'∧∃res H' φ' N',R res H'∧Rel H' φ' N' w'∧ar H φ N w H' φ' N' w'∧qx H' φ' N' w' res (.returned v):=by
  intro s'' H' hW hres
  obtain⟨φ2,N2,hI2⟩:=hW.ok hR hI1
  exact⟨_,jd rs hr hl _ _,_,H',φ2,N2,hres,hI2.rel,hI2.since,wT hI2.tmps rs⟩
 cases e with
 |normal=>
  obtain⟨s'',H',hW,hres⟩:=hq
  exact fin s'' H' hW hres
 |ret=>
  obtain⟨s'',H',hW,hres⟩:=hq
  exact fin s'' H' hW hres
 |exit i=>exact hq.elim
 |panic v=>exact hq.elim
end
end Go.Proofs.YtggohfhfocgilaaGreatAw
namespace Go.Proofs.YtggohfhfocgilaaGreat.K
open Go.Proofs.YtggohfhfocgilaaGreatAw
theorem HY:TI Tryz.prog 2=some ((.int .i64 0:Value),1,8):=by kernel_rfl
theorem Gk:de Tryz.prog 2=some false:=by kernel_rfl
theorem HX:SE Tryz.prog 2=none:=by kernel_rfl
theorem HM:UK Tryz.prog 2=some .i64:=by kernel_rfl
theorem HZ:TI Tryz.prog 3=some ((.int .i64 0:Value),1,8):=by kernel_rfl
theorem Bo:de Tryz.prog 3=some false:=by kernel_rfl
theorem HV:SE Tryz.prog 3=none:=by kernel_rfl
theorem GI:UK Tryz.prog 3=some .i64:=by kernel_rfl
theorem H5:TI Tryz.prog 4=some ((.bool false:Value),1,1):=by kernel_rfl
theorem Hm:de Tryz.prog 4=some false:=by kernel_rfl
theorem H6:TI Tryz.prog 5=some ((.int .u8 0:Value),1,1):=by kernel_rfl
theorem HB:de Tryz.prog 5=some false:=by kernel_rfl
theorem Ic:SE Tryz.prog 5=none:=by kernel_rfl
theorem Ib:UK Tryz.prog 5=some .u8:=by kernel_rfl
theorem Ia:TI Tryz.prog 9=some ((.string ⟨#[]⟩:Value),1,16):=by kernel_rfl
theorem Fa:de Tryz.prog 9=some false:=by kernel_rfl
theorem HW:SE Tryz.prog 9=none:=by kernel_rfl
theorem H7:MT Tryz.prog 9=none:=by kernel_rfl
theorem HO:Tryz.prog.underlying 9=some .string:=by kernel_rfl
theorem Hv:TI Tryz.prog 22=some ((.slice none 0 0:Value),1,24):=by kernel_rfl
theorem FT:de Tryz.prog 22=some false:=by kernel_rfl
theorem GR:SE Tryz.prog 22=some 136:=by kernel_rfl
theorem Hr:TI Tryz.prog 23=some ((.slice none 0 0:Value),1,24):=by kernel_rfl
theorem FR:de Tryz.prog 23=some false:=by kernel_rfl
theorem Hh:SE Tryz.prog 23=some 3:=by kernel_rfl
theorem Hu:TI Tryz.prog 25=some ((.agg #[.slice none 0 0,.slice none 0 0,.slice none 0 0,.slice none 0 0]:Value),4,96):=by kernel_rfl
theorem CN:de Tryz.prog 25=some true:=by kernel_rfl
theorem D8:FO Tryz.prog 25 0=some (0,22):=by kernel_rfl
theorem Ea:FO Tryz.prog 25 1=some (1,23):=by kernel_rfl
theorem D6:FO Tryz.prog 25 2=some (2,23):=by kernel_rfl
theorem Dy:FO Tryz.prog 25 3=some (3,23):=by kernel_rfl
theorem Ho:TI Tryz.prog 26=some ((.slice none 0 0:Value),1,24):=by kernel_rfl
theorem Fo:de Tryz.prog 26=some false:=by kernel_rfl
theorem GN:SE Tryz.prog 26=some 123:=by kernel_rfl
theorem Hw:TI Tryz.prog 27=some ((.slice none 0 0:Value),1,24):=by kernel_rfl
theorem FE:de Tryz.prog 27=some false:=by kernel_rfl
theorem G0:SE Tryz.prog 27=some 120:=by kernel_rfl
theorem Hi:TI Tryz.prog 28=some ((.slice none 0 0:Value),1,24):=by kernel_rfl
theorem Ft:de Tryz.prog 28=some false:=by kernel_rfl
theorem GU:SE Tryz.prog 28=some 118:=by kernel_rfl
theorem Ht:TI Tryz.prog 30=some ((.agg #[.int .i64 0,.slice none 0 0,.slice none 0 0,.slice none 0 0,.bool false,.slice none 0 0,.slice none 0 0,.int .i64 0]:Value),8,144):=by kernel_rfl
theorem CS:de Tryz.prog 30=some true:=by kernel_rfl
theorem C3:FO Tryz.prog 30 1=some (1,26):=by kernel_rfl
theorem C6:FO Tryz.prog 30 2=some (2,27):=by kernel_rfl
theorem DA:FO Tryz.prog 30 3=some (3,23):=by kernel_rfl
theorem DY:FO Tryz.prog 30 5=some (5,28):=by kernel_rfl
theorem HE:SP Tryz.prog 30=some [(0,1),(1,1),(2,1),(3,1),(4,1),(5,1),(6,1),(7,1)]:=by kernel_rfl
theorem HH:TI Tryz.prog 32=some ((.agg #[.int .i64 0,.bool false,.slice none 0 0,.int .i64 0,.bool false]:Value),5,56):=by kernel_rfl
theorem CU:de Tryz.prog 32=some true:=by kernel_rfl
theorem DD:FO Tryz.prog 32 1=some (1,4):=by kernel_rfl
theorem Dc:FO Tryz.prog 32 2=some (2,23):=by kernel_rfl
theorem De:FO Tryz.prog 32 3=some (3,3):=by kernel_rfl
theorem D4:FO Tryz.prog 32 4=some (4,4):=by kernel_rfl
theorem He:TI Tryz.prog 34=some ((.slice none 0 0:Value),1,24):=by kernel_rfl
theorem E5:de Tryz.prog 34=some false:=by kernel_rfl
theorem GP:SE Tryz.prog 34=some 110:=by kernel_rfl
theorem G4:TI Tryz.prog 36=some ((.agg #[.slice none 0 0,.slice none 0 0,.int .i64 0,.slice none 0 0]:Value),4,80):=by kernel_rfl
theorem FM:de Tryz.prog 36=some true:=by kernel_rfl
theorem Ek:FO Tryz.prog 36 0=some (0,23):=by kernel_rfl
theorem En:FO Tryz.prog 36 1=some (1,23):=by kernel_rfl
theorem DN:FO Tryz.prog 36 2=some (2,3):=by kernel_rfl
theorem Eh:FO Tryz.prog 36 3=some (3,34):=by kernel_rfl
theorem GY:SP Tryz.prog 36=some [(0,1),(1,1),(2,1),(3,1)]:=by kernel_rfl
theorem HJ:TI Tryz.prog 40=some ((.int .u64 0:Value),1,8):=by kernel_rfl
theorem Fj:de Tryz.prog 40=some false:=by kernel_rfl
theorem Hp:SE Tryz.prog 40=none:=by kernel_rfl
theorem Ha:UK Tryz.prog 40=some .u64:=by kernel_rfl
theorem G7:TI Tryz.prog 43=some ((.slice none 0 0:Value),1,24):=by kernel_rfl
theorem EZ:de Tryz.prog 43=some false:=by kernel_rfl
theorem HA:SE Tryz.prog 43=some 109:=by kernel_rfl
theorem GM:TI Tryz.prog 45=some ((.agg #[.slice none 0 0,.slice none 0 0,.int .i64 0,.slice none 0 0]:Value),4,80):=by kernel_rfl
theorem Fz:de Tryz.prog 45=some true:=by kernel_rfl
theorem Dq:FO Tryz.prog 45 0=some (0,23):=by kernel_rfl
theorem Dd:FO Tryz.prog 45 3=some (3,43):=by kernel_rfl
theorem GL:SP Tryz.prog 45=some [(0,1),(1,1),(2,1),(3,1)]:=by kernel_rfl
theorem GW:TI Tryz.prog 68=some ((.int .i64 0:Value),1,8):=by kernel_rfl
theorem FA:de Tryz.prog 68=some false:=by kernel_rfl
theorem HF:TI Tryz.prog 81=some ((.slice none 0 0:Value),1,24):=by kernel_rfl
theorem E7:de Tryz.prog 81=some false:=by kernel_rfl
theorem Hz:SE Tryz.prog 81=some 5:=by kernel_rfl
theorem GZ:TI Tryz.prog 96=some ((.slice none 0 0:Value),1,24):=by kernel_rfl
theorem Fm:de Tryz.prog 96=some false:=by kernel_rfl
theorem GK:SE Tryz.prog 96=some 102:=by kernel_rfl
theorem CT:TI Tryz.prog 100=some ((.agg #[.int .i64 0,.int .i64 0,.string ⟨#[]⟩]:Value),3,32):=by kernel_rfl
theorem A9:de Tryz.prog 100=some true:=by kernel_rfl
theorem CF:FO Tryz.prog 100 0=some (0,3):=by kernel_rfl
theorem Cm:FO Tryz.prog 100 1=some (1,2):=by kernel_rfl
theorem B3:FO Tryz.prog 100 2=some (2,9):=by kernel_rfl
theorem Fc:SP Tryz.prog 100=some [(0,1),(1,1),(2,1)]:=by kernel_rfl
theorem F3:TI Tryz.prog 102=some ((.agg #[.int .i64 0,.int .i64 0,.int .i64 0,.int .i64 0,.string ⟨#[]⟩,.int .i64 0,.int .i64 0,.string ⟨#[]⟩]:Value),8,80):=by kernel_rfl
theorem DG:de Tryz.prog 102=some true:=by kernel_rfl
theorem BB:FO Tryz.prog 102 0=some (0,3):=by kernel_rfl
theorem Br:FO Tryz.prog 102 1=some (1,3):=by kernel_rfl
theorem Bu:FO Tryz.prog 102 2=some (2,100):=by kernel_rfl
theorem Cy:FO Tryz.prog 102 3=some (5,100):=by kernel_rfl
theorem FL:SP Tryz.prog 102=some [(0,1),(1,1),(2,3),(5,3)]:=by kernel_rfl
theorem Gj:TI Tryz.prog 109=some ((.slice none 0 0:Value),1,24):=by kernel_rfl
theorem DL:de Tryz.prog 109=some false:=by kernel_rfl
theorem Fl:SE Tryz.prog 109=some 114:=by kernel_rfl
theorem Fi:TI Tryz.prog 110=some ((.slice none 0 0:Value),1,24):=by kernel_rfl
theorem DK:de Tryz.prog 110=some false:=by kernel_rfl
theorem EV:SE Tryz.prog 110=some 113:=by kernel_rfl
theorem FJ:TI Tryz.prog 111=some ((.slice none 0 0:Value),1,24):=by kernel_rfl
theorem C8:de Tryz.prog 111=some false:=by kernel_rfl
theorem FG:SE Tryz.prog 111=some 4:=by kernel_rfl
theorem EW:TI Tryz.prog 113=some ((.agg #[.int .i64 0,.int .i64 0,.int .i64 0,.int .i64 0,.int .i64 0,.int .i64 0,.string ⟨#[]⟩,.int .i64 0,.int .i64 0,.string ⟨#[]⟩,.slice none 0 0,.slice none 0 0]:Value),12,144):=by kernel_rfl
theorem DX:de Tryz.prog 113=some true:=by kernel_rfl
theorem Bx:FO Tryz.prog 113 0=some (0,3):=by kernel_rfl
theorem BC:FO Tryz.prog 113 1=some (1,3):=by kernel_rfl
theorem Ca:FO Tryz.prog 113 2=some (2,102):=by kernel_rfl
theorem BO:FO Tryz.prog 113 3=some (10,111):=by kernel_rfl
theorem CA:FO Tryz.prog 113 4=some (11,81):=by kernel_rfl
theorem Fu:SP Tryz.prog 113=some [(0,1),(1,1),(2,8),(10,1),(11,1)]:=by kernel_rfl
theorem FD:TI Tryz.prog 114=some ((.agg #[.int .i64 0,.int .i64 0,.int .i64 0,.int .i64 0,.int .i64 0,.int .i64 0,.string ⟨#[]⟩,.int .i64 0,.int .i64 0,.string ⟨#[]⟩,.slice none 0 0,.slice none 0 0]:Value),12,144):=by kernel_rfl
theorem B4:FO Tryz.prog 114 2=some (2,102):=by kernel_rfl
theorem E4:SP Tryz.prog 114=some [(0,1),(1,1),(2,8),(10,1),(11,1)]:=by kernel_rfl
theorem Fh:TI Tryz.prog 115=some ((.map none:Value),1,8):=by kernel_rfl
theorem Ec:de Tryz.prog 115=some false:=by kernel_rfl
theorem Gn:MT Tryz.prog 115=some (.i64,3,4):=by kernel_rfl
theorem EO:TI Tryz.prog 118=some ((.agg #[.int .i64 0,.int .i64 0]:Value),2,16):=by kernel_rfl
theorem C7:de Tryz.prog 118=some true:=by kernel_rfl
theorem BR:FO Tryz.prog 118 0=some (0,3):=by kernel_rfl
theorem Cf:FO Tryz.prog 118 1=some (1,3):=by kernel_rfl
theorem FF:TI Tryz.prog 120=some ((.agg #[.int .i64 0,.int .i64 0,.int .i64 0,.slice none 0 0]:Value),4,48):=by kernel_rfl
theorem CW:de Tryz.prog 120=some true:=by kernel_rfl
theorem Co:FO Tryz.prog 120 0=some (0,3):=by kernel_rfl
theorem FK:TI Tryz.prog 123=some ((.agg #[.int .i64 0,.int .i64 0,.int .i64 0,.int .i64 0,.string ⟨#[]⟩]:Value),5,48):=by kernel_rfl
theorem Dp:de Tryz.prog 123=some true:=by kernel_rfl
theorem Ct:FO Tryz.prog 123 0=some (0,3):=by kernel_rfl
theorem BL:FO Tryz.prog 123 1=some (1,3):=by kernel_rfl
theorem CD:FO Tryz.prog 123 2=some (2,100):=by kernel_rfl
theorem FB:TI Tryz.prog 136=some ((.slice none 0 0:Value),1,24):=by kernel_rfl
theorem DF:de Tryz.prog 136=some false:=by kernel_rfl
theorem F6:SE Tryz.prog 136=some 100:=by kernel_rfl
theorem Gl:SE Tryz.prog 207=none:=by kernel_rfl
theorem EU:UK Tryz.prog 207=some .u64:=by kernel_rfl
theorem EL:TI Tryz.prog 220=some ((.nilFunc:Value),1,8):=by kernel_rfl
theorem Dj:de Tryz.prog 220=some false:=by kernel_rfl
theorem EE:TI Tryz.prog 223=some ((.agg #[.nilFunc,.nilFunc]:Value),2,16):=by kernel_rfl
theorem Cv:FO Tryz.prog 223 0=some (0,220):=by kernel_rfl
theorem F7:SP Tryz.prog 223=some [(0,1),(1,1)]:=by kernel_rfl
theorem EP:MT Tryz.prog 225=some (.i64,3,223):=by kernel_rfl
theorem ED:TI Tryz.prog 237=some ((.agg #[.slice none 0 0,.int .i64 0]:Value),2,32):=by kernel_rfl
theorem By:FO Tryz.prog 237 0=some (0,81):=by kernel_rfl
theorem BF:FO Tryz.prog 237 1=some (1,3):=by kernel_rfl
theorem Gd:SP Tryz.prog 237=some [(0,1),(1,1)]:=by kernel_rfl
theorem Fq:TI Tryz.prog 267=some ((.agg #[.int .i64 0,.int .i64 0,.int .i64 0,.int .i64 0,.int .i64 0,.int .i64 0,.int .i64 0]:Value),7,56):=by kernel_rfl
theorem Fk:SE Tryz.prog 267=none:=by kernel_rfl
theorem EI:AE Tryz.prog 267=some (7,3):=by kernel_rfl
theorem Ge:SP Tryz.prog 267=none:=by kernel_rfl
theorem E9:SE Tryz.prog 284=some 287:=by kernel_rfl
theorem Gm:TI Tryz.prog 287=some ((.agg #[.int .i64 0,.int .i64 0,.int .i64 0,.string ⟨#[]⟩]:Value),4,40):=by kernel_rfl
theorem Dw:de Tryz.prog 287=some true:=by kernel_rfl
theorem Cp:FO Tryz.prog 287 0=some (0,3):=by kernel_rfl
theorem Bs:FO Tryz.prog 287 1=some (1,100):=by kernel_rfl
theorem FH:SP Tryz.prog 287=some [(0,1),(1,3)]:=by kernel_rfl
theorem ES:SE Tryz.prog 291=some 40:=by kernel_rfl
theorem mixed:Tryz.prog.follows .mixedOrders=true:=by kernel_rfl
attribute [go_sem] HY Gk HX HM HZ Bo HV GI H5 Hm H6 HB Ic Ib Ia Fa HW H7 HO Hv FT GR Hr FR Hh Hu CN D8 Ea D6 Dy Ho Fo GN Hw FE G0 Hi Ft GU Ht CS C3 C6 DA DY HE HH CU DD Dc De D4 He E5 GP G4 FM Ek En DN Eh GY HJ Fj Hp Ha G7 EZ HA GM Fz Dq Dd GL GW FA HF E7 Hz GZ Fm GK CT A9 CF Cm B3 Fc F3 DG BB Br Bu Cy FL Gj DL Fl Fi DK EV FJ C8 FG EW DX Bx BC Ca BO CA Fu FD B4 E4 Fh Ec Gn EO C7 BR Cf FF CW Co FK Dp Ct BL CD FB DF F6 Gl EU EL Dj EE Cv F7 EP ED By BF Gd Fq Fk EI Ge E9 Gm Dw Cp Bs FH ES mixed
end Go.Proofs.YtggohfhfocgilaaGreat.K
namespace Go.Proofs.YtggohfhfocgilaaGreatAw
theorem Cb(n:Nat)(s:Nat→AV)(d:Tmp)(v:AV)(t:Nat):bl n s (some d) v t=if t=d then(if d<n then v else .top)else s t:=rfl
theorem Ci(n:Nat)(s:Nat→AV)(v:AV):bl n s none v=s:=rfl
theorem yH(s:Nat→AV)(t:Tmp):ai s (.tmp t)=s t:=rfl
theorem ud(s:Nat→AV)(v:Value):ai s (.const v)=bN v:=rfl
theorem vF(s:Nat→AV)(f:FuncId):ai s (.func f)= .fn f []:=rfl
theorem wE(k:IntKind)(n:Int):bN (.int k n)= .d (.v (.int k n)):=rfl
theorem uB(b:Bool):bN (.bool b)= .d (.v (.bool b)):=rfl
theorem oI(b:ByteArray):bN (.string b)= .d (.v (.string b)):=rfl
theorem qJ(a:Option Addr)(n c:Nat):bN (.slice a n c)= .d (.v (.slice a n c)):=rfl
theorem nh(a:Option Addr):bN (.pointer a)= .d (.v (.pointer a)):=rfl
theorem vT(cs:Array Value):bN (.agg cs)=if cs.all Value.oneCell' then .agg (cs.toList.map fun c=> .d (.v c))else .top:=rfl
theorem m3:bN .nilFunc= .d (.v .nilFunc):=rfl
theorem AJ(args:List AV)(t:Nat):ji args t=args.getD t .top:=rfl
theorem Ap(x:Value):closed (.d (.v x))=some x:=rfl
theorem sE(nn:Bool)(es:List (List D)):closed (.d (.list nn es))=none:=rfl
theorem wx(id ag i j:Nat):closed (.ptr id ag i j)=none:=rfl
theorem u3(cs:List AV):closed (.agg cs)=(e7 cs).map fun l=> .agg l.toArray:=rfl
theorem xD(x:D):cellsOf (.d x)=some [.d x]:=rfl
theorem uQ(id ag off len:Nat):cellsOf (.sl id ag off len)=some [.sl id ag off len]:=rfl
theorem sv(cs:List AV):cellsOf (.agg cs)=if cs.all AV.one then some cs else none:=rfl
theorem u4(f:FuncId)(cs:List AV):cellsOf (.fn f cs)=some [.fn f cs]:=rfl
theorem vB(id:Nat):cellsOf (.mp id)=some [.mp id]:=rfl
theorem wS(H T:aa)(k:Nat):(H++T)[H.length+k]?=T[k]?:=by rw[List.getElem?_append_right (by omega)];congr 1;omega
theorem Bj(H T:aa):(H++T)[H.length]?=T[0]?:=wS H T 0
theorem wX(H T:aa)(k:Nat)(o:aA):(H++T).set (H.length+k) o=H++T.set k o:=by
 rw[List.set_append_right _ _ (by omega)];congr 2;omega
theorem AZ(H T:aa)(o:aA):(H++T).set H.length o=H++T.set 0 o:=wX H T 0 o
theorem yG(H:aa)(nn:Bool)(es:List (List D)):oY H (.d (.list nn es))=some es.length:=rfl
theorem CE(H:aa)(id ag off len:Nat):oY H (.sl id ag off len)=match H[id]? with|some ob=>if ob.ag=ag then some len else none|none=>none:=rfl
theorem zy(H:aa)(nn:Bool)(es:List (List D)):iz H (.d (.list nn es))=some es:=rfl
theorem vi(H:aa)(k:Nat)(i:Int)(nn:Bool)(es:List (List D)):fH H k i (.d (.list nn es))=if 0≤i then(es[i.toNat]?).bind fun e=>if e.length=k then some (.bW e)else none else none:=rfl
theorem vk(H:aa)(n:Nat)(cs:List D):dF H n (.bW cs)=if n≤cs.length then some ((cs.take n).map .d)else none:=rfl
theorem y9(H:aa)(n id ag i j:Nat):dF H n (.ptr id ag i j)=ae H id ag i j n:=rfl
theorem vr(H:aa)(cs:List AV)(id ag i j:Nat):nk H cs (.ptr id ag i j)=aw H id ag i j cs:=rfl
theorem zj(off id ag i j:Nat):fe off (.ptr id ag i j)=some (.ptr id ag i (j+off)):=rfl
theorem wK(off:Nat)(cs:List D):fe off (.bW cs)=if off≤cs.length then some (.bW (cs.drop off))else none:=rfl
theorem qa(H:aa)(id ag i j:Nat):fresh H (.ptr id ag i j)=match H[id]? with|some o=>o.ag==ag&&o.live|none=>false:=rfl
theorem wF(H:aa)(cs:List D):fresh H (.bW cs)=true:=rfl
theorem zW:lI []=some []:=rfl
theorem xP(x:AV)(xs:List AV):lI (x::xs)=match x.toD?,lI xs with|some y,some ys=>some (y::ys)|_,_=>none:=rfl
theorem FX(x:D):(AV.d x).toD?=some x:=rfl
theorem yr(place:Nat→Option (Nat×Nat))(cells:List AV):dy place cells []=some cells:=rfl
theorem v7(place:Nat→Option (Nat×Nat))(cells:List AV)(i:Nat)(x:AV)(rest:List (Nat×AV)):dy place cells ((i,x)::rest)=match place i,cellsOf x with
  |some (off,size),some cs=>if cs.length=size∧off+size≤cells.length then dy place (ee cells off cs) rest else none
  |_,_=>none:=rfl
theorem jJ(H:aa)(o:aA):(H++[o])[H.length]?=some o:=by simp
def nf{α:Sort _}(x:α):α:=x
theorem AU{α:Sort _}(x:α):nf x=x:=rfl
def ob{α:Type}(x:Option α)(K:α→Prop):Prop:=match x with|some a=>K a|none=>False
theorem aK{α:Type}(a:α)(K:α→Prop):ob (some a) K=K a:=rfl
theorem Bb{α:Type}{x y:Option α}{K:α→Prop}(h:nf x=y):ob x K=ob y K:=by rw[←h];rfl
def kV{α:Type}(x:Option α)(K:α→Prop)(L:Prop):Prop:=match x with|some a=>K a|none=>L
theorem dG{α:Type}(a:α)(K:α→Prop)(L:Prop):kV (some a) K L=K a:=rfl
theorem dD{α:Type}(K:α→Prop)(L:Prop):kV none K L=L:=rfl
theorem vK{α:Type}{x y:Option α}{K:α→Prop}{L:Prop}(h:nf x=y):kV x K L=kV y K L:=by rw[←h];rfl
def mF(b:Bool)(A B:Prop):Prop:=if b=true then A else B
theorem pw(A B:Prop):mF true A B=A:=by simp[mF]
theorem fA(A B:Prop):mF false A B=B:=by simp[mF]
theorem u9{b c:Bool}{A B:Prop}(h:nf b=c):mF b A B=mF c A B:=by rw[←h];rfl
def Hq:AV→Option Bool
 | .d (.v (.bool b))=>some b
 |_=>none
theorem Bg(b:Bool):Hq (.d (.v (.bool b)))=some b:=rfl
def HK:AV→Option Int
 | .d (.v (.int _ i))=>some i
 |_=>none
theorem Cc(k:IntKind)(i:Int):HK (.d (.v (.int k i)))=some i:=rfl
def oc(x:AV)(A:FuncId→List AV→Prop)(B:Nat→Prop):Prop:=match x with
 | .fn f cs=>A f cs
 | .gl id=>B id
 |_=>False
theorem Gf(f:FuncId)(cs:List AV)(A:FuncId→List AV→Prop)(B:Nat→Prop):oc (.fn f cs) A B=A f cs:=rfl
theorem DZ(id:Nat)(A:FuncId→List AV→Prop)(B:Nat→Prop):oc (.gl id) A B=B id:=rfl
@[congr] theorem E2 {x y:AV} {A:FuncId→List AV→Prop} {B:Nat→Prop} (h:nf x=y):oc x A B=oc y A B:=by rw[←h];rfl
def HN:AV→Option (List AV)
 | .bq cs=>some cs
 |_=>none
theorem wY(cs:List AV):HN (.bq cs)=some cs:=rfl
def AI:Option Value→Option ByteArray
 |some (.string b)=>some b
 |_=>none
theorem jv(b:ByteArray):AI (some (.string b))=some b:=rfl
def A8:Option Value→Option Int
 |some (.int _ i)=>some i
 |_=>none
theorem tg(k:IntKind)(i:Int):A8 (some (.int k i))=some i:=rfl
def G1{α:Type}:Option (List α)→Option α
 |some [c]=>some c
 |_=>none
theorem Cj{α:Type}(c:α):G1 (some [c])=some c:=rfl
theorem Eb:(true==false)=false:=rfl
theorem Ed:(false==true)=false:=rfl
attribute [go_sem] AU Eb Ed aK dG dD pw fA Bg Cc Gf DZ wY jv tg Cj
def dV(P:Program)(t:TypeId):Bool:=match TI P t with|some (z,k,_)=>decide (0<k)&&z.cells.size==k&&z.cells.all Value.oneCell'|none=>false
theorem rk{P:Program}{t:TypeId}{z:Value}{k b:Nat}(h:TI P t=some (z,k,b)):(dV P t=true)=(0<k∧z.cells.size=k∧z.cells.all Value.oneCell'=true):=by
 simp[dV,h,and_assoc]
section
variable (P:Program) (hint:Nat→Bool) (n:Nat) (H0:aa)
def Fs(ops:Array Oper)(Q:aQ)(rest:List Oper)(s:Nat→AV)(d:Option Tmp):AV→aa→Prop:=fun r H'=>aM P hint n ops Q rest (bl n s d r) H'
def Cg(Q:aQ)(s:Nat→AV):Value→aa→Prop:=fun v H'=>Q (.panic v) s H'
def iV(y:Code)(Q:aQ):aQ:=fun e s' H'=>match e with| .normal=>(if c4 hint y=true then ∃s'' H'',an H0 s' H' s'' H''∧cq P hint n H0 y Q s'' H'' else cq P hint n H0 y Q s' H')|e=>Q e s' H'
def cI(id:Nat)(Q:aQ):aQ:=fun e s' H'=>match e with| .exit i=>if i=id then Q .normal s' H' else Q (.exit i) s' H'|e=>Q e s' H'
def eF(R:(Nat→AV)→aa→Prop)(Q:aQ):aQ:=fun e s' H'=>match e with| .normal=>R s' H'|e=>Q e s' H'
def AD(K:AV→aa→Prop)(H:aa):Value→Prop:=fun r=>K (bN r) H
theorem Cq(ops:Array Oper)(Q:aQ)(rest:List Oper)(s:Nat→AV)(d:Option Tmp)(r:AV)(H:aa):Fs P hint n ops Q rest s d r H=aM P hint n ops Q rest (bl n s d r) H:=rfl
theorem cD(y:Code)(Q:aQ)(s:Nat→AV)(H:aa):iV P hint n H0 y Q .normal s H=mF (c4 hint y) (∃s'' H'',an H0 s H s'' H''∧cq P hint n H0 y Q s'' H'') (cq P hint n H0 y Q s H):=rfl
theorem wI(x y:Code):c4 hint (.seq x y)=c4 hint x:=rfl
theorem pg(id:Nat)(ops:Array Oper)(b:Bool):c4 hint (.region id ops b)=hint (id+1000000):=rfl
theorem sm(c:Operand)(x y:Code):c4 hint (.cond c x y)=false:=rfl
theorem rI(id:Nat)(x:Code):c4 hint (.block id x)=false:=rfl
theorem wj:c4 hint .ret=false:=rfl
theorem uc(id:Nat):c4 hint (.exit id)=false:=rfl
attribute [go_sem] wI pg sm rI wj uc
theorem pT(y:Code)(Q:aQ)(i:Nat)(s:Nat→AV)(H:aa):iV P hint n H0 y Q (.exit i) s H=Q (.exit i) s H:=rfl
theorem Au(y:Code)(Q:aQ)(s:Nat→AV)(H:aa):iV P hint n H0 y Q .ret s H=Q .ret s H:=rfl
theorem oO(id:Nat)(Q:aQ)(s:Nat→AV)(H:aa):cI id Q .normal s H=Q .normal s H:=rfl
theorem fF(id:Nat)(Q:aQ)(i:Nat)(s:Nat→AV)(H:aa):cI id Q (.exit i) s H=if i=id then Q .normal s H else Q (.exit i) s H:=rfl
theorem uJ(id:Nat)(Q:aQ)(s:Nat→AV)(H:aa):cI id Q .ret s H=Q .ret s H:=rfl
theorem rD(R:(Nat→AV)→aa→Prop)(Q:aQ)(s:Nat→AV)(H:aa):eF R Q .normal s H=R s H:=rfl
theorem vx(R:(Nat→AV)→aa→Prop)(Q:aQ)(i:Nat)(s:Nat→AV)(H:aa):eF R Q (.exit i) s H=Q (.exit i) s H:=rfl
theorem yx(R:(Nat→AV)→aa→Prop)(Q:aQ)(s:Nat→AV)(H:aa):eF R Q .ret s H=Q .ret s H:=rfl
theorem Ab(K:AV→aa→Prop)(H:aa)(r:Value):AD K H r=K (bN r) H:=rfl
theorem tW(Q:aQ)(s:Nat→AV)(H:aa):cq P hint n H0 .skip Q s H=Q .normal s H:=rfl
theorem u6(id:Nat)(ops:Array Oper)(Q:aQ)(s:Nat→AV)(H:aa):cq P hint n H0 (.region id ops false) Q s H=aM P hint n ops Q ops.toList s H:=rfl
theorem dq(x y:Code)(Q:aQ)(s:Nat→AV)(H:aa):cq P hint n H0 (.seq x y) Q s H=cq P hint n H0 x (iV P hint n H0 y Q) s H:=rfl
theorem og(c:Operand)(x y:Code)(Q:aQ)(s:Nat→AV)(H:aa):cq P hint n H0 (.cond c x y) Q s H=(match ai s c with| .d (.v (.bool b))=>if b=true then cq P hint n H0 x Q s H else cq P hint n H0 y Q s H|_=>False):=rfl
theorem pW(id:Nat)(x:Code)(Q:aQ)(s:Nat→AV)(H:aa):cq P hint n H0 (.block id x) Q s H=cq P hint n H0 x (cI id Q) s H:=rfl
theorem s5(id:Nat)(Q:aQ)(s:Nat→AV)(H:aa):cq P hint n H0 (.exit id) Q s H=Q (.exit id) s H:=rfl
theorem CB(Q:aQ)(s:Nat→AV)(H:aa):cq P hint n H0 .ret Q s H=Q .ret s H:=rfl
theorem br{α:Type}(I:α→(Nat→AV)→aa→Prop)(μ:α→Nat)(x0:α){body:Code}{Q:aQ}{s s':Nat→AV}{H H':aa}(hW:an H0 s H s' H')(h0:I x0 s' H')
  (step:∀x s H,I x s H→cq P hint n H0 body (eF (fun s' H'=>∃s'' H'' y,an H0 s' H' s'' H''∧I y s'' H''∧μ y<μ x) Q) s H):cq P hint n H0 (.loop body) Q s H:=by
 refine⟨fun m s H=>∃x,μ x=m∧I x s H∧cq P hint n H0 body (eF (fun s' H'=>∃s'' H'' y,an H0 s' H' s'' H''∧I y s'' H''∧μ y<μ x) Q) s H,μ x0,⟨s',H',hW,x0,rfl,h0,step x0 s' H' h0⟩,?_⟩
 rintro m s H ⟨x,rfl,hI,h⟩
 have e:(eF (fun s' H'=>∃s'' H'' y,an H0 s' H' s'' H''∧I y s'' H''∧μ y<μ x) Q:aQ)=fun e s' H'=>match e with
   | .normal=>∃s'' H'' m',an H0 s' H' s'' H''∧(∃x,μ x=m'∧I x s'' H''∧cq P hint n H0 body (eF (fun s' H'=>∃s'' H'' y,an H0 s' H' s'' H''∧I y s'' H''∧μ y<μ x) Q) s'' H'')∧m'<μ x
   |e=>Q e s' H':=by
  funext e s' H'
  cases e with
  |normal=>
   refine propext ⟨?_,?_⟩
   ·rintro⟨s'',H'',y,hW,hI,hlt⟩
    exact⟨s'',H'',μ y,hW,⟨y,rfl,hI,step y s'' H'' hI⟩,hlt⟩
   ·rintro⟨s'',H'',m',hW,⟨y,rfl,hI,_⟩,hlt⟩
    exact⟨s'',H'',y,hW,hI,hlt⟩
  |_=>rfl
 rw[e]at h
 exact h
theorem tP(ops:Array Oper)(Q:aQ)(s:Nat→AV)(H:aa):aM P hint n ops Q [] s H=Q .normal s H:=rfl
theorem qY(ops:Array Oper)(Q:aQ)(d:Option Tmp)(op:Op)(ty:TypeId)(p:String)(af:Array Edge)(rest:List Oper)(s:Nat→AV)(H:aa):
  aM P hint n ops Q (⟨d,op,ty,p,af,none⟩::rest) s H=aB P hint s H ⟨d,op,ty,p,af,none⟩ (Fs P hint n ops Q rest s d) (Cg Q s):=rfl
theorem oU(ops:Array Oper)(Q:aQ)(d:Option Tmp)(op:Op)(ty:TypeId)(p:String)(af:Array Edge)(j:Nat)(b:Bool)(rest:List Oper)(s:Nat→AV)(H:aa):
  aM P hint n ops Q (⟨d,op,ty,p,af,some (j,b)⟩::rest) s H=ob (eH ops s n j b) fun b'=>mF b' (aB P hint s H ⟨d,op,ty,p,af,some (j,b)⟩ (Fs P hint n ops Q rest s d) (Cg Q s)) (aM P hint n ops Q rest (bl n s d (.bq [])) H):=by
 simp only[aM,cy]
 cases eH ops s n j b with
 |none=>rfl
 |some b'=>cases b'<;>rfl
theorem zY(w b:Bool):Gi w (.d (.v (.bool b)))=some (b==w):=rfl
theorem BH(w:Bool):Gi w (.bq [])=some false:=rfl
theorem zx(ops:Array Oper)(s:Nat→AV)(j:Nat)(w:Bool):eH ops s n j w=((ops[j]?).bind (·.dst)).bind fun d=>if d<n then Gi w (s d)else none:=by
 unfold eH
 cases(ops[j]?).bind (·.dst)with
 |none=>rfl
 |some d=>rfl
end
section
variable (P:Program) (hint:Nat→Bool) (s:Nat→AV) (H:aa) (d:Option Tmp) (ty:TypeId) (p:String) (af:Array Edge) (g:Option (Nat×Bool)) (K:AV→aa→Prop) (KP:Value→aa→Prop)
def hintOf(hint:Nat→Bool)(d:Option Tmp):Bool:=match d with|some d=>hint d|none=>false
theorem Bz(x:Operand):aB P hint s H ⟨d,.move x,ty,p,af,g⟩ K KP=K (ai s x) H:=rfl
theorem yi(x:Operand):aB P hint s H ⟨d,.assign x,ty,p,af,g⟩ K KP=K (ai s x) H:=rfl
theorem BE(c x y:Operand):aB P hint s H ⟨d,.pick c x y,ty,p,af,g⟩ K KP=ob (Hq (ai s c)) fun t=>K (if t=true then ai s x else ai s y) H:=by
 simp only[aB,fI]
 cases ai s c<;>first|rfl|(rename_i u;cases u<;>first|rfl|(rename_i v;cases v<;>rfl))
def FQ(e:TypeId)(z:Value)(k:Nat)(H:aa)(K:AV→aa→Prop):Prop:=∃id e',H[id]?=some (.arr e' k 0 [])∧K (.ptr id 1 0 0) (H.set id (.box e k 1 1 (bE z.cells)))
theorem ug(e:TypeId):aB P hint s H ⟨d,.alloc e,ty,p,af,g⟩ K KP=ob (TI P e) fun z=>dV P e=true∧mF (hintOf hint d) (FQ e z.1 z.2.1 H K) (K (.ptr H.length 0 0 0) (H++[.box e z.2.1 0 1 (bE z.1.cells)])):=by
 simp only[aB,fI]
 rcases h:TI P e with _|⟨z,k,b⟩
 ·rfl
 ·simp only[aK,rk h]
  cases d with
  |none=>rfl
  |some d=>
   simp only[hintOf]
   by_cases hh:hint d=true
   ·rw[if_pos hh,hh];rfl
   ·rw[if_neg hh,show hint d=false by simpa using hh];rfl
theorem El(e:TypeId)(x:Operand):aB P hint s H ⟨d,.box e x,ty,p,af,g⟩ K KP=ob (cellsOf (ai s x)) fun cs=>0<cs.length∧K (.ptr H.length 0 0 0) (H++[.box e cs.length 0 1 cs]):=by
 simp only[aB,fI]
 cases cellsOf (ai s x)<;>rfl
theorem A5(t:TypeId)(ps:Array (Nat×Operand)):aB P hint s H ⟨d,.build t ps,ty,p,af,g⟩ K KP=ob (TI P t) fun z=>z.1.cells.all Value.oneCell'=true∧kV (SP P t) (fun places=>ob (dy (places.toArray[·]?) (bE z.1.cells) (bV s ps)) fun out=>K (.agg out) H)
  (ob (AE P t) fun ne=>ob (TI P ne.2) fun ze=>ob (dy (fun i=>some (i* ze.2.1,ze.2.1)) (bE z.1.cells) (bV s ps)) fun out=>K (.agg out) H):=by
 simp only[aB,fI]
 rcases TI P t with _|⟨z,k,b⟩
 ·rfl
 ·simp only[aK]
  congr 1
  cases SP P t with
  |some pl=>simp only[dG];cases dy (pl.toArray[·]?) (bE z.cells) (bV s ps)<;>rfl
  |none=>
   simp only[dD]
   rcases AE P t with _|⟨m,e⟩
   ·rfl
   ·simp only[aK]
    rcases TI P e with _|⟨ze,ke,be⟩
    ·rfl
    ·simp only[aK];cases dy (fun i=>some (i* ke,ke)) (bE z.cells) (bV s ps)<;>rfl
theorem oZ(t:TypeId)(m:Nat)(ps:Array (Nat×Operand)):aB P hint s H ⟨d,.buildSlice t (m+1) ps,ty,p,af,g⟩ K KP=ob (SE P t) fun e=>ob (TI P e) fun z=>
  (dV P e=true∧(m+1)* z.2.1≤16777216)∧ob (dy (fun i=>some (i* z.2.1,z.2.1)) (gb z.1 ((m+1)* z.2.1)) (bV s ps)) fun out=>ob (lI out) fun ds=>
   mF (hintOf hint d) (K (.sl H.length 0 0 (m+1)) (H++[.arr e z.2.1 0 (chunk (m+1) z.2.1 ds)])) (K (.d (.list true (chunk (m+1) z.2.1 ds))) H):=by
 simp only[aB,fI]
 cases SE P t with
 |none=>rfl
 |some e=>
  simp only[aK]
  rcases h:TI P e with _|⟨z,k,b⟩
  ·rfl
  ·simp only[aK,Nat.add_one_ne_zero,if_false]
   have hc:(z.cells.size=k∧z.cells.all Value.oneCell'=true∧(m+1)* k≤16777216∧0<(m+1)* k)=(dV P e=true∧(m+1)* k≤16777216):=by
    rw[rk h]
    refine propext ⟨fun⟨h1,h2,h3,h4⟩=>⟨⟨Nat.pos_of_mul_pos_left h4,h1,h2⟩,h3⟩,fun⟨⟨h0,h1,h2⟩,h3⟩=>⟨h1,h2,h3,Nat.mul_pos (Nat.succ_pos m) h0⟩⟩
   rw[hc]
   congr 1
   cases dy (fun i=>some (i* k,k)) (gb z ((m+1)* k)) (bV s ps)with
   |none=>rfl
   |some out=>
    simp only[aK]
    cases lI out with
    |none=>rfl
    |some ds=>rfl
theorem om(t:TypeId)(ps:Array (Nat×Operand)):aB P hint s H ⟨d,.buildSlice t 0 ps,ty,p,af,g⟩ K KP=ob (SE P t) fun e=>ob (TI P e) fun _=>ps=#[]∧K .cU H:=by
 simp only[aB,fI]
 cases SE P t with
 |none=>rfl
 |some e=>
  simp only[aK]
  rcases TI P e with _|⟨z,k,b⟩<;>simp[ob]
theorem BG(t:TypeId)(x:Operand):aB P hint s H ⟨d,.load t x,ty,p,af,g⟩ K KP=ob (de P t) fun b=>mF b (ob (TI P t) fun z=>ob (dF H z.2.1 (ai s x)) fun cs=>K (.agg cs) H) (ob (G1 (dF H 1 (ai s x))) fun c=>K c H):=by
 simp only[aB,fI]
 cases de P t with
 |none=>rfl
 |some b=>
  cases b with
  |true=>
   simp only[aK,pw]
   rcases TI P t with _|⟨z,k,b⟩
   ·rfl
   ·simp only[aK];cases dF H k (ai s x)<;>rfl
  |false=>
   simp only[aK,fA]
   cases dF H 1 (ai s x)with
   |none=>rfl
   |some cs=>rcases cs with _|⟨c,_|⟨c',l⟩⟩<;>rfl
theorem AB(t:TypeId)(x y:Operand):aB P hint s H ⟨d,.store t x y,ty,p,af,g⟩ K KP=ob (TI P t) fun z=>ob (cellsOf (ai s y)) fun cs=>cs.length=z.2.1∧ob (nk H cs (ai s x)) fun H'=>K .top H':=by
 simp only[aB,fI]
 rcases TI P t with _|⟨z,k,b⟩
 ·rfl
 ·simp only[aK]
  cases cellsOf (ai s y)with
  |none=>rfl
  |some cs=>simp only[aK];congr 1;cases nk H cs (ai s x)<;>rfl
theorem qt(t:TypeId)(x:Operand)(f:Nat):aB P hint s H ⟨d,.fieldAddr t x f,ty,p,af,g⟩ K KP=ob (FO P t f) fun o=>ob (TI P o.2) fun z=>0<z.2.1∧fresh H (ai s x)=true∧ob (fe o.1 (ai s x)) fun y=>K y H:=by
 simp only[aB,fI]
 rcases FO P t f with _|⟨off,ft⟩
 ·rfl
 ·simp only[aK]
  rcases TI P ft with _|⟨z,k,b⟩
  ·rfl
  ·simp only[aK];congr 2;cases fe off (ai s x)<;>rfl
theorem rO(t:TypeId)(x i:Operand):aB P hint s H ⟨d,.indexAddr t x i,ty,p,af,g⟩ K KP=ob (HK (ai s i)) fun i=>kV (SE P t) (fun e=>ob (TI P e) fun z=>ob (fH H z.2.1 i (ai s x)) fun y=>K y H)
  (ob (AE P t) fun ne=>ob (TI P ne.2) fun z=>0≤i∧i<ne.1∧fresh H (ai s x)=true∧ob (fe (i.toNat* z.2.1) (ai s x)) fun y=>K y H):=by
 have main:∀n:Int,(match SE P t with
   |some e=>(match TI P e with|some (_,k,_)=>(match fH H k n (ai s x)with|some y=>K y H|none=>False)|none=>False)
   |none=>(match AE P t with
    |some (m,e)=>(match TI P e with|some (_,k,_)=>0≤n∧n<m∧fresh H (ai s x)=true∧(match fe (n.toNat* k) (ai s x)with|some y=>K y H|none=>False)|none=>False)
    |none=>False))=kV (SE P t) (fun e=>ob (TI P e) fun z=>ob (fH H z.2.1 n (ai s x)) fun y=>K y H)
  (ob (AE P t) fun ne=>ob (TI P ne.2) fun z=>0≤n∧n<ne.1∧fresh H (ai s x)=true∧ob (fe (n.toNat* z.2.1) (ai s x)) fun y=>K y H):=by
  intro n
  cases SE P t with
  |some e=>
   simp only[dG]
   rcases TI P e with _|⟨z,k,b⟩
   ·rfl
   ·simp only[aK];cases fH H k n (ai s x)<;>rfl
  |none=>
   simp only[dD]
   rcases AE P t with _|⟨m,e⟩
   ·rfl
   ·simp only[aK]
    rcases TI P e with _|⟨z,k,b⟩
    ·rfl
    ·simp only[aK];congr 3;cases fe (n.toNat* k) (ai s x)<;>rfl
 simp only[aB,fI]
 cases ai s i<;>first|rfl|skip
 rename_i u
 cases u<;>first|rfl|skip
 rename_i v
 cases v<;>first|rfl|exact main _
def Fv{α β:Type}(x:Option α)(y:Option β)(F:α→β→Prop)(L:Prop):Prop:=match x,y with|some a,some b=>F a b|_,_=>L
theorem Ax{α β:Type}(a:α)(b:β)(F:α→β→Prop)(L:Prop):Fv (some a) (some b) F L=F a b:=rfl
theorem yF{α β:Type}(y:Option β)(F:α→β→Prop)(L:Prop):Fv none y F L=L:=rfl
theorem yC{α β:Type}{x x':Option α}{y y':Option β}{F:α→β→Prop}{L:Prop}(g:nf x=x')(h:nf y=y'):Fv x y F L=Fv x' y' F L:=by rw[←g,←h];rfl
attribute [go_sem] Ax yF
theorem Er(op:BinOp)(t:TypeId)(x y:Operand)(t':TypeId):aB P hint s H ⟨d,.binOp op t x y t',ty,p,af,g⟩ K KP=Fv (closed (ai s x)) (closed (ai s y)) (fun u v=>ck P op t u v (AD K H)) (km P H op t (ai s x) (ai s y)=true∧K (.d (.v (.bool (m2 op)))) H):=by
 simp only[aB,fI]
 cases closed (ai s x)with
 |none=>rfl
 |some u=>cases closed (ai s y)<;>rfl
theorem ER(op:UnOp)(t:TypeId)(x:Operand):aB P hint s H ⟨d,.unOp op t x,ty,p,af,g⟩ K KP=ob (closed (ai s x)) fun u=>zA op u (AD K H):=by
 simp only[aB,fI]
 cases closed (ai s x)<;>rfl
def Fw:AV→Option (List (List D))
 | .d (.list _ es)=>some es
 |_=>none
theorem p8(nn:Bool)(es:List (List D)):Fw (.d (.list nn es))=some es:=rfl
theorem vU(a b:TypeId)(x:Operand):aB P hint s H ⟨d,.convert a b x,ty,p,af,g⟩ K KP=kV (SE P a) (fun e=>UK P e=some .u8∧P.underlying b=some .string∧ob (Fw (ai s x)) fun es=>ob (gX es) fun ns=>K (.d (.v (.string (jx ns)))) H)
  (ob (A8 (closed (ai s x))) fun n=>ob (UK P a) fun _=>ob (UK P b) fun k=>K (.d (.v (.int k (k.wrap n)))) H):=by
 have main:∀n:Int,(match UK P a,UK P b with|some _,some k=>K (.d (.v (.int k (k.wrap n)))) H|_,_=>False)=ob (UK P a) fun _=>ob (UK P b) fun k=>K (.d (.v (.int k (k.wrap n)))) H:=by
  intro n
  cases UK P a with
  |none=>rfl
  |some _=>simp only[aK];cases UK P b<;>rfl
 simp only[aB,fI]
 cases SE P a with
 |some e=>
  simp only[dG]
  congr 2
  cases ai s x<;>first|rfl|(rename_i u;cases u<;>first|rfl|(rename_i es;simp only[p8,aK];cases gX es<;>rfl))
 |none=>
  simp only[dD]
  cases closed (ai s x)with
  |none=>rfl
  |some v=>cases v<;>first|rfl|exact main _
theorem vf(x:Operand)(i:Nat):aB P hint s H ⟨d,.extract x i,ty,p,af,g⟩ K KP=ob (HN (ai s x)) fun cs=>ob cs[i]? fun c=>K c H:=by
 simp only[aB,fI]
 cases ai s x<;>first|rfl|skip
 rename_i cs
 simp only[wY,aK]
 cases cs[i]?<;>rfl
theorem s4(f:FuncId)(x y:Array Operand):aB P hint s H ⟨d,.makeFunc (.func f) x y,ty,p,af,g⟩ K KP=(x=#[]∧K (.fn f (y.toList.map (ai s))) H):=rfl
theorem r5(x:Operand):aB P hint s H ⟨d,.nilCheck x,ty,p,af,g⟩ K KP=(rp H (ai s x)=true∧K (ai s x) H):=rfl
def Am:AV→Option Nat
 | .mp id=>some id
 |_=>none
theorem mV(id:Nat):Am (.mp id)=some id:=rfl
def Ak:Option aA→Option (IntKind×List (Int×AV))
 |some (.mp kk es)=>some (kk,es)
 |_=>none
theorem re(kk:IntKind)(es:List (Int×AV)):Ak (some (.mp kk es))=some (kk,es):=rfl
def yX:Option Value→Option (IntKind×Int)
 |some (.int k i)=>some (k,i)
 |_=>none
theorem m6(k:IntKind)(i:Int):yX (some (.int k i))=some (k,i):=rfl
attribute [go_sem] mV re m6
theorem Dm(x:Operand)(t:TypeId)(ts:Array TypeId)(h:ts.toList=[t]):aB P hint s H ⟨d,.call ⟨.builtin .len,#[x],ts⟩,ty,p,af,g⟩ K KP=kV (SE P t) (fun _=>ob (oY H (ai s x)) fun n=>K (.d (.v (.int .i64 n))) H)
  (kV (MT P t) (fun m=>ob (Am (ai s x)) fun id=>ob (Ak H[id]?) fun o=>o.1=m.1∧K (.d (.v (.int .i64 o.2.length))) H)
  (P.underlying t=some .string∧ob (AI (closed (ai s x))) fun b=>K (.d (.v (.int .i64 b.size))) H)):=by
 simp only[aB,bU,h]
 cases SE P t with
 |some e=>simp only[dG];cases oY H (ai s x)<;>rfl
 |none=>
  simp only[dD]
  rcases MT P t with _|⟨kk,kt,e⟩
  ·simp only[dD]
   congr 1
   cases closed (ai s x)with
   |none=>rfl
   |some v=>cases v<;>rfl
  ·simp only[dG]
   cases ai s x with
   |mp id=>
    simp only[mV,aK]
    rcases H[id]? with _|o
    ·rfl
    ·cases o<;>rfl
   |_=>rfl
theorem B7(x:Operand)(t:TypeId):aB P hint s H ⟨d,.call ⟨.builtin .len,#[x],#[t]⟩,ty,p,af,g⟩ K KP=kV (SE P t) (fun _=>ob (oY H (ai s x)) fun n=>K (.d (.v (.int .i64 n))) H)
  (kV (MT P t) (fun m=>ob (Am (ai s x)) fun id=>ob (Ak H[id]?) fun o=>o.1=m.1∧K (.d (.v (.int .i64 o.2.length))) H)
  (P.underlying t=some .string∧ob (AI (closed (ai s x))) fun b=>K (.d (.v (.int .i64 b.size))) H)):=Dm P hint s H d ty p af g K KP x t #[t] rfl
theorem Dr(x:Operand)(xs:List Operand)(ts:Array TypeId):aB P hint s H ⟨d,.call ⟨.builtin .min,⟨x::xs⟩,ts⟩,ty,p,af,g⟩ K KP=ob (yX (closed (ai s x))) fun n=>ob (bS s n.1 xs) fun ns=>K (.d (.v (.int n.1 (ns.foldl min n.2)))) H:=by
 simp only[aB,bU]
 cases closed (ai s x)with
 |none=>rfl
 |some v=>cases v<;>first|rfl|(rename_i k n;simp only[m6,aK];cases bS s k xs<;>rfl)
theorem DE(x:Operand)(xs:List Operand)(ts:Array TypeId):aB P hint s H ⟨d,.call ⟨.builtin .max,⟨x::xs⟩,ts⟩,ty,p,af,g⟩ K KP=ob (yX (closed (ai s x))) fun n=>ob (bS s n.1 xs) fun ns=>K (.d (.v (.int n.1 (ns.foldl max n.2)))) H:=by
 simp only[aB,bU]
 cases closed (ai s x)with
 |none=>rfl
 |some v=>cases v<;>first|rfl|(rename_i k n;simp only[m6,aK];cases bS s k xs<;>rfl)
theorem tk(k:IntKind):bS s k []=some []:=rfl
theorem qm(k:IntKind)(x:Operand)(xs:List Operand):bS s k (x::xs)=(yX (closed (ai s x))).bind fun n=>(bS s k xs).bind fun ns=>if n.1=k then some (n.2::ns)else none:=by
 show(match closed (ai s x),bS s k xs with|some (.int k' n),some ns=>if k'=k then some (n::ns)else none|_,_=>none)=_
 cases closed (ai s x)with
 |none=>rfl
 |some v=>cases v<;>first|rfl|(cases bS s k xs<;>rfl)
theorem AP(t:TypeId)(x:Operand)(lo hi:Option Operand):aB P hint s H ⟨d,.slice t x lo hi none,ty,p,af,g⟩ K KP=kV (SE P t) (fun e=>ob (TI P e) fun z=>cJ H z.2.1 (aT s lo) (fun n=>cv s n hi) K (ai s x))
  (kV (AE P t) (fun ne=>(lo.isNone=true∧hi.isNone=true)∧ob (TI P ne.2) fun z=>z.2.1=1∧wO H ne.1 K (ai s x))
  (P.underlying t=some .string∧ob (AI (closed (ai s x))) fun b=>ob (aT s lo) fun l=>ob (cv s b.size hi) fun h=>0≤l∧l≤h∧h≤b.size∧K (.d (.v (.string (b.extract l.toNat h.toNat)))) H)):=by
 simp only[aB,fI]
 cases SE P t with
 |some e=>
  simp only[dG]
  rcases TI P e with _|⟨z,k,b⟩<;>rfl
 |none=>
  simp only[dD]
  rcases AE P t with _|⟨n,e⟩
  ·simp only[dD]
   congr 1
   cases closed (ai s x)with
   |none=>rfl
   |some v=>
    cases v<;>first|rfl|skip
    rename_i b
    simp only[jv,aK]
    cases aT s lo with
    |none=>rfl
    |some l=>simp only[aK];cases cv s b.size hi<;>rfl
  ·simp only[dG]
   rcases TI P e with _|⟨z,k,b⟩<;>rfl
theorem sj(k:Nat)(lo:Option Int)(hi:Nat→Option Int)(K:AV→aa→Prop)(nn:Bool)(es:List (List D)):cJ H k lo hi K (.d (.list nn es))=((∀c∈es,c.length=k)∧ob lo fun l=>ob (hi es.length) fun h=>0≤l∧l≤h∧h≤es.length∧K (.d (.list false ((es.take h.toNat).drop l.toNat))) H):=by
 simp only[cJ]
 congr 1
 cases lo with
 |none=>rfl
 |some l=>simp only[aK];cases hi es.length<;>rfl
theorem xY(k:Nat)(lo:Option Int)(hi:Nat→Option Int)(K:AV→aa→Prop)(id ag off len:Nat):cJ H k lo hi K (.sl id ag off len)=(ob H[id]? fun o=>ob lo fun l=>ob (hi len) fun h=>(o.ag=ag∧o.k=k∧o.live=true)∧0≤l∧l≤h∧h≤len∧(l=0∨l<h)∧K (.sl id ag (off+l.toNat) (h.toNat-l.toNat)) H):=by
 simp only[cJ]
 cases H[id]? with
 |none=>rfl
 |some o=>
  cases lo with
  |none=>rfl
  |some l=>simp only[aK];cases hi len<;>rfl
theorem xC(t:TypeId)(x:Operand)(lo:Option Operand)(hi mx:Operand):aB P hint s H ⟨d,.slice t x lo (some hi) (some mx),ty,p,af,g⟩ K KP=ob (SE P t) fun e=>ob (TI P e) fun z=>er H z.2.1 (aT s lo) (aT s (some hi)) (aT s (some mx)) K (ai s x):=by
 simp only[aB,fI]
 cases SE P t with
 |some e=>
  simp only[aK]
  rcases TI P e with _|⟨z,k,b⟩<;>rfl
 |none=>rfl
theorem qW(k:Nat)(lo hi mx:Option Int)(K:AV→aa→Prop)(nn:Bool)(es:List (List D)):er H k lo hi mx K (.d (.list nn es))=((∀c∈es,c.length=k)∧ob lo fun l=>ob hi fun h=>ob mx fun m=>0≤l∧l≤h∧h≤m∧m≤es.length∧K (.d (.list false ((es.take h.toNat).drop l.toNat))) H):=by
 cases lo<;>cases hi<;>cases mx<;>rfl
theorem zL(x:Operand)(t:TypeId):aB P hint s H ⟨d,.call ⟨.builtin .clear,#[x],#[t]⟩,ty,p,af,g⟩ K KP=ob (SE P t) fun e=>ob (TI P e) fun z=>(z.1.cells.size=z.2.1∧z.1.cells.all Value.oneCell'=true)∧(match ai s x with
    | .sl id ag off len=>(match H[id]? with
     |some (.arr e' k' ver' es)=>(e'=e∧k'=z.2.1∧ver'=ag)∧K (.bq []) (H.set id (.arr e z.2.1 ag (bL es off (eA z.1 len))))
     |_=>False)
    |_=>False):=by
 simp only[aB,bU]
 cases SE P t with
 |none=>rfl
 |some e=>
  simp only[aK]
  rcases TI P e with _|⟨z,k,b⟩<;>rfl
theorem qe:aT s none=some 0:=rfl
theorem rA(x:Operand):aT s (some x)=A8 (closed (ai s x)):=by
 simp only[aT]
 cases closed (ai s x)with
 |none=>rfl
 |some v=>cases v<;>rfl
theorem rq(n:Nat):cv s n none=some (n:Int):=rfl
theorem rm(n:Nat)(x:Operand):cv s n (some x)=A8 (closed (ai s x)):=by
 simp only[cv]
 cases closed (ai s x)with
 |none=>rfl
 |some v=>cases v<;>rfl
theorem zN(t:TypeId)(x ix:Operand):aB P hint s H ⟨d,.index t x ix,ty,p,af,g⟩ K KP=(P.underlying t=some .string∧ob (AI (closed (ai s x))) fun b=>ob (A8 (closed (ai s ix))) fun i=>0≤i∧ob b[i.toNat]? fun u=>K (.d (.v (.int .u8 u.toNat))) H):=by
 simp only[aB,fI]
 congr 1
 cases closed (ai s x)with
 |none=>rfl
 |some v=>
  cases v<;>first|rfl|skip
  rename_i b
  cases closed (ai s ix)with
  |none=>rfl
  |some v=>
   cases v<;>first|rfl|skip
   simp only[jv,aK,tg]
   rename_i i
   congr 1
   cases b[i.toNat]?<;>rfl
theorem wL(t:TypeId):aB P hint s H ⟨d,.makeMap t none,ty,p,af,g⟩ K KP=ob (MT P t) fun m=>K (.mp H.length) (H++[.mp m.1 []]):=by
 simp only[aB,fI]
 rcases MT P t with _|⟨kk,kt,e⟩<;>rfl
theorem xO(t:TypeId)(x ix:Operand)(ok:Bool):aB P hint s H ⟨d,.lookup t x ix ok,ty,p,af,g⟩ K KP=ob (MT P t) fun m=>ob (TI P m.2.2) fun z=>ob (Am (ai s x)) fun id=>ob (Ak H[id]?) fun o=>ob (yX (closed (ai s ix))) fun n=>
  (o.1=m.1∧n.1=m.1)∧K (if ok then .bq [(dz n.2 o.2).getD (bN z.1),.d (.v (.bool (dz n.2 o.2).isSome))]else(dz n.2 o.2).getD (bN z.1)) H:=by
 simp only[aB,fI]
 rcases MT P t with _|⟨kk,kt,e⟩
 ·rfl
 ·simp only[aK]
  rcases TI P e with _|⟨z,k,b⟩
  ·rfl
  ·simp only[aK]
   cases ai s x with
   |mp id=>
    simp only[mV,aK]
    rcases H[id]? with _|o
    ·rfl
    ·cases o with
     |mp kk es=>
      simp only[re,aK]
      rcases closed (ai s ix)with _|v
      ·rfl
      ·cases v<;>rfl
     |_=>rfl
   |_=>rfl
theorem qT(t:TypeId)(x ix y:Operand):aB P hint s H ⟨d,.mapUpdate t x ix y,ty,p,af,g⟩ K KP=ob (MT P t) fun m=>ob (Am (ai s x)) fun id=>ob (Ak H[id]?) fun o=>ob (yX (closed (ai s ix))) fun n=>
  (o.1=m.1∧n.1=m.1)∧K .top (H.set id (.mp m.1 (iT n.2 (ai s y) o.2))):=by
 simp only[aB,fI]
 rcases MT P t with _|⟨kk,kt,e⟩
 ·rfl
 ·simp only[aK]
  cases ai s x with
  |mp id=>
   simp only[mV,aK]
   rcases H[id]? with _|o
   ·rfl
   ·cases o with
    |mp kk es=>
     simp only[re,aK]
     rcases closed (ai s ix)with _|v
     ·rfl
     ·cases v<;>rfl
    |_=>rfl
  |_=>rfl
theorem yb(t:TypeId)(x ix y:Operand):aB P hint s H ⟨d,.insert t x ix y,ty,p,af,g⟩ K KP=aB P hint s H ⟨d,.mapUpdate t x ix y,ty,p,af,g⟩ K KP:=by simp only[aB,fI]
theorem Ee(b:Bool)(K:Value→Prop):zA .not (.bool b) K=K (.bool !b):=rfl
def EX(k:IntKind)(n:Int):Int:=(BitVec.ofInt k.bits (if k.signed then -1 else k.max)^^^BitVec.ofInt k.bits n).toNat
theorem Es(k:IntKind)(n:Int)(K:Value→Prop):zA .xor (.int k n) K=K (.int k (k.wrap (EX k n))):=rfl
attribute [go_sem] Ee Es Option.getD_some Option.getD_none Option.isSome_some Option.isSome_none
def vW(k:IntKind)(m n:Int):Int:=m* 2^(min n.toNat k.bits)
def j5(k:IntKind)(m n:Int):Int:=m.fdiv (2^(min n.toNat k.bits))
def z7(k:IntKind)(m n:Int):Int:=(BitVec.ofInt k.bits m&&&BitVec.ofInt k.bits n).toNat
def Ev(k:IntKind)(m n:Int):Int:=(BitVec.ofInt k.bits m|||BitVec.ofInt k.bits n).toNat
def Fb(k:IntKind)(m n:Int):Int:=(BitVec.ofInt k.bits m^^^BitVec.ofInt k.bits n).toNat
theorem Dt(P:Program)(t:TypeId)(k k':IntKind)(m n:Int)(K:Value→Prop):ck P .shl t (.int k m) (.int k' n) K=(0≤n∧K (.int k (k.wrap (vW k m n)))):=rfl
theorem C2(P:Program)(t:TypeId)(k k':IntKind)(m n:Int)(K:Value→Prop):ck P .shr t (.int k m) (.int k' n) K=(0≤n∧K (.int k (j5 k m n))):=rfl
theorem C0(P:Program)(t:TypeId)(k k':IntKind)(m n:Int)(K:Value→Prop):ck P .add t (.int k m) (.int k' n) K=(k=k'∧K (.int k (k.wrap (m+n)))):=rfl
theorem DH(P:Program)(t:TypeId)(k k':IntKind)(m n:Int)(K:Value→Prop):ck P .sub t (.int k m) (.int k' n) K=(k=k'∧K (.int k (k.wrap (m-n)))):=rfl
theorem DC(P:Program)(t:TypeId)(k k':IntKind)(m n:Int)(K:Value→Prop):ck P .mul t (.int k m) (.int k' n) K=(k=k'∧K (.int k (k.wrap (m* n)))):=rfl
theorem Dh(P:Program)(t:TypeId)(k k':IntKind)(m n:Int)(K:Value→Prop):ck P .quo t (.int k m) (.int k' n) K=(k=k'∧n≠0∧K (.int k (k.wrap (m.tdiv n)))):=rfl
theorem DJ(P:Program)(t:TypeId)(k k':IntKind)(m n:Int)(K:Value→Prop):ck P .rem t (.int k m) (.int k' n) K=(k=k'∧n≠0∧K (.int k (m.tmod n))):=rfl
theorem Ef(P:Program)(t:TypeId)(k k':IntKind)(m n:Int)(K:Value→Prop):ck P .and t (.int k m) (.int k' n) K=(k=k'∧K (.int k (k.wrap (z7 k m n)))):=rfl
theorem Gh(P:Program)(t:TypeId)(k k':IntKind)(m n:Int)(K:Value→Prop):ck P .or t (.int k m) (.int k' n) K=(k=k'∧K (.int k (k.wrap (Ev k m n)))):=rfl
theorem D9(P:Program)(t:TypeId)(k k':IntKind)(m n:Int)(K:Value→Prop):ck P .xor t (.int k m) (.int k' n) K=(k=k'∧K (.int k (k.wrap (Fb k m n)))):=rfl
theorem Et(P:Program)(t:TypeId)(k k':IntKind)(m n:Int)(K:Value→Prop):ck P .eql t (.int k m) (.int k' n) K=(k=k'∧K (.bool (m==n))):=rfl
theorem Df(P:Program)(t:TypeId)(k k':IntKind)(m n:Int)(K:Value→Prop):ck P .neq t (.int k m) (.int k' n) K=(k=k'∧K (.bool (m !=n))):=rfl
theorem Du(P:Program)(t:TypeId)(k k':IntKind)(m n:Int)(K:Value→Prop):ck P .lss t (.int k m) (.int k' n) K=(k=k'∧K (.bool (decide (m<n)))):=rfl
theorem Dv(P:Program)(t:TypeId)(k k':IntKind)(m n:Int)(K:Value→Prop):ck P .leq t (.int k m) (.int k' n) K=(k=k'∧K (.bool (decide (m≤n)))):=rfl
theorem Di(P:Program)(t:TypeId)(k k':IntKind)(m n:Int)(K:Value→Prop):ck P .gtr t (.int k m) (.int k' n) K=(k=k'∧K (.bool (decide (m>n)))):=rfl
theorem DW(P:Program)(t:TypeId)(k k':IntKind)(m n:Int)(K:Value→Prop):ck P .geq t (.int k m) (.int k' n) K=(k=k'∧K (.bool (decide (m≥n)))):=rfl
theorem Ej(P:Program)(t:TypeId)(m n:ByteArray)(K:Value→Prop):ck P .eql t (.string m) (.string n) K=K (.bool (m.toList==n.toList)):=rfl
theorem D3(P:Program)(t:TypeId)(m n:ByteArray)(K:Value→Prop):ck P .neq t (.string m) (.string n) K=K (.bool (!(m.toList==n.toList))):=rfl
theorem C1(P:Program)(t:TypeId)(m n:ByteArray)(K:Value→Prop):ck P .lss t (.string m) (.string n) K=K (.bool (Op.bytesLess m.toList n.toList)):=rfl
theorem CZ(P:Program)(t:TypeId)(m n:ByteArray)(K:Value→Prop):ck P .gtr t (.string m) (.string n) K=K (.bool (!(Op.bytesLess m.toList n.toList||m.toList==n.toList))):=rfl
attribute [go_sem] Dt C2 C0 DH DC Dh DJ Ef Gh D9 Et Df Du Dv Di DW Ej D3 C1 CZ
def mm(H:aa)(e:TypeId)(k b:Nat)(news:List (List D))(K:AV→aa→Prop):AV→Prop
 | .sl id ag 0 len=>ob H[id]? fun o=>match o with
  | .arr e' k' ver' es=>(e'=e∧k'=k∧ver'=ag∧es.length=len)∧(es.length+news.length)* b≤140737488355328∧es.length+news.length≤9223372036854775807∧
    K (.sl id (ag+1) 0 (es.length+news.length)) (H.set id (.arr e k (ag+1) (es++news)))
  |_=>False
 |x=>isNone x=true∧news.length* b≤140737488355328∧news.length≤9223372036854775807∧K (.sl H.length 1 0 news.length) (H++[.arr e k 1 news])
theorem vV(H:aa)(e:TypeId)(k b:Nat)(news:List (List D))(K:AV→aa→Prop):mm H e k b news K .cU=(news.length* b≤140737488355328∧news.length≤9223372036854775807∧K (.sl H.length 1 0 news.length) (H++[.arr e k 1 news])):=by
 simp[mm,isNone]
theorem yM(x y:Operand)(t t':TypeId):aB P hint s H ⟨d,.call ⟨.builtin .append,#[x,y],#[t,t']⟩,ty,p,af,g⟩ K KP=ob (SE P t) fun e=>ob (TI P e) fun z=>(z.1.cells.size=z.2.1∧0<z.2.1)∧ob (nC P t t' z.2.1 H (ai s y)) fun news=>
  (∀c∈news,c.length=z.2.1)∧mm H e z.2.1 z.2.2 news K (ai s x):=by
 simp only[aB,bU]
 cases SE P t with
 |none=>simp[ob]
 |some e=>
  simp only[aK]
  rcases TI P e with _|⟨z,k,b⟩
  ·rfl
  ·simp only[aK]
   congr 1
   cases nC P t t' k H (ai s y)with
   |none=>rfl
   |some news=>
    simp only[aK]
    congr 1
    cases ai s x with
    |sl id ag off len=>
     cases off with
     |zero=>
      simp only[mm]
      cases H[id]? with
      |none=>rfl
      |some ob=>cases ob<;>rfl
     |succ off=>rfl
    |_=>rfl
def ab(P:Program)(f:FuncId)(args:List AV)(H:aa)(K:AV→aa→Prop)(KP:Value→aa→Prop):Prop:=∃res H',ah P f args H res H'∧(match res with| .ok r=>K r H'| .panic v=>KP v H')
def tq(P:Program)(id:Nat)(args:List AV)(H:aa)(K:AV→aa→Prop):Prop:=∃R,r1 P H id args R∧∀b H',R b H'→K (.d (.v (.bool b))) H'
theorem tq.ok{P:Program}{id:Nat}{args:List AV}{H:aa}{K:AV→aa→Prop}{R:Bool→aa→Prop}(h:r1 P H id args R)(hk:∀b H',R b H'→K (.d (.v (.bool b))) H'):tq P id args H K:=⟨R,h,hk⟩
theorem Ch(f:Operand)(xs:Array Operand)(ts:Array TypeId):aB P hint s H ⟨d,.call ⟨.value f,xs,ts⟩,ty,p,af,g⟩ K KP=oc (ai s f) (fun f cs=>ab P f (xs.toList.map (ai s)++cs) H K KP) (fun id=>hint 3000000=true∧tq P id (xs.toList.map (ai s)) H K):=by
 simp only[aB]
 cases ai s f<;>rfl
theorem ab.ok{P:Program}{f:FuncId}{args:List AV}{H:aa}{K:AV→aa→Prop}{KP:Value→aa→Prop}{r:AV}{H':aa}(h:ah P f args H (.ok r) H')(hk:K r H'):ab P f args H K KP:=⟨_,_,h,hk⟩
theorem ab.panic{P:Program}{f:FuncId}{args:List AV}{H:aa}{K:AV→aa→Prop}{KP:Value→aa→Prop}{v:Value}{H':aa}(h:ah P f args H (.panic v) H')(hk:KP v H'):ab P f args H K KP:=⟨_,_,h,hk⟩
end
attribute [go_sem] Cq cD pT Au oO fF uJ rD vx yx Ab tW u6 dq pW s5 CB tP qY oU Bz yi BE ug El A5 oZ om BG AB qt rO Er ER vU p8 vf s4 r5 B7 wL xO qT AP Option.isNone_none Option.isNone_some sj xY xC qW zL qe rA rq rm zN yb Dr DE tk qm List.foldl_cons List.foldl_nil yM Ch zx zY BH vV Cb Ci yH ud vF wE uB oI qJ nh vT m3 AJ Ap sE wx u3 e7 xD uQ sv u4 vB yG CE zy vi vk y9 vr zj wK qa wF zW xP FX yr v7 jJ wS Bj wX AZ List.set_cons_zero List.set_cons_succ bV chunk gb ee bE iX aA.ag aA.k aA.live aA.len Bool.and_true AV.one hintOf rp isNone
theorem tail_append(H T:aa):∀i o,i<H.length→(H++T)[i]?=some o→H[i]?=some o∨o.below H.length=true:=fun i o hi h=> .inl (by rwa[List.getElem?_append_left hi]at h)
theorem an.drop(H T:aa)(s:Nat→AV):an H s (H++T) (fun t=>qd (H++T) H.length (s t)) H:=by
 have:=an.xi (H0:=H) s (H++T) H.length (Nat.le_refl _) (by simp) (tail_append H T)
 rwa[List.take_left]at this
theorem ao.ret{rs:List Tmp}{H T:aa}{s:Nat→AV}{r:AV}(h:r=iX rs fun t=>qd (H++T) H.length (s t)):ao rs H (.ok r) H .ret s (H++T):=⟨_,an.drop H T s,by rw[h]⟩
theorem ao.aF{rs:List Tmp}{H:aa}{s:Nat→AV}{r:AV}(h:r=iX rs s):ao rs H (.ok r) H .ret s H:=⟨_,an.refl s H,by rw[h]⟩
theorem FY(H:aa)(m:Nat)(x:D):qd H m (.d x)= .d x:=rfl
theorem BM(H:aa)(m:Nat)(cs:List AV):qd H m (.agg cs)= .agg (cs.map (kn H m)):=rfl
theorem AN(H:aa)(m id v off len:Nat):qd H m (.sl id v off len)=kn H m (.sl id v off len):=rfl
theorem Cx(H:aa)(m id v i j:Nat):qd H m (.ptr id v i j)=kn H m (.ptr id v i j):=rfl
theorem D5(H:aa)(m:Nat)(x:D):kn H m (.d x)= .d x:=rfl
theorem xd(H:aa)(m id v off len:Nat):kn H m (.sl id v off len)=if id<m then .sl id v off len else match H[id]? with
  |some (.arr _ _ ag es)=>if ag=v then .d (.list false ((es.drop off).take len))else .top
  |_=> .top:=rfl
theorem zS(H:aa)(m id v i j:Nat):kn H m (.ptr id v i j)=if id<m then .ptr id v i j else .top:=rfl
theorem an.fy(H:aa)(s:Nat→AV)(t:Nat)(e:TypeId)(k:Nat)(hk:0<k)(h:isNone (s t)=true)(H0:aa):an H0 s H (fun u=>if u=t then .sl H.length 0 0 0 else s u) (H++[.arr e k 0 []]):= .xa s H t e k 0 hk h
attribute [go_sem] FY BM AN Cx D5 xd zS
theorem xI{α:Type}(x:α)(l:List α)(d:α):(x::l).getD 0 d=x:=rfl
theorem xW{α:Type}(x:α)(l:List α)(n:Nat)(d:α):(x::l).getD (n+1) d=l.getD n d:=rfl
theorem getD_nil{α:Type}(n:Nat)(d:α):([]:List α).getD n d=d:=rfl
theorem toList_mk{α:Type}(l:List α):l.toArray.toList=l:=rfl
theorem lD{α:Type}(l:List α)(i:Nat):l.toArray[i]?=l[i]?:=by simp
attribute [go_sem] xI xW getD_nil toList_mk lD List.map_cons List.map_nil List.length_cons List.length_nil List.length_map List.getElem?_cons_zero List.getElem?_cons_succ List.getElem?_map List.getElem?_nil Option.map_some Option.map_none Option.bind_some Option.bind_none List.take_succ_cons List.take_zero List.take_nil List.drop_succ_cons List.drop_zero List.drop_nil List.append_assoc List.cons_append List.nil_append List.all_cons List.all_nil Bool.and_true Bool.true_and Bool.and_false Bool.false_and Bool.and_self Nat.zero_add Nat.add_zero Nat.zero_mul Nat.mul_zero Nat.one_mul Nat.mul_one Bool.not_true Bool.not_false Int.toNat_natCast Int.natCast_nonneg List.size_toArray true_and and_true beq_self_eq_true decide_true decide_false if_true if_false Nat.le_refl ne_eq not_true not_false_iff reduceCtorEq Array.toList_map List.length_append List.mem_cons List.not_mem_nil or_false forall_eq Int.ofNat_lt Int.ofNat_le
theorem DP:List.range 0=[]:=rfl
theorem BJ(k:IntKind)(n:Int):(Value.int k n).oneCell'=true:=rfl
theorem Bn(b:Bool):(Value.bool b).oneCell'=true:=rfl
theorem vt(b:ByteArray):(Value.string b).oneCell'=true:=rfl
theorem zg(a:Option Addr)(n c:Nat):(Value.slice a n c).oneCell'=true:=rfl
theorem tG:Value.nilFunc.oneCell'=true:=rfl
theorem wrap64_in(n:Int)(h0:-9223372036854775808≤n)(h1:n≤9223372036854775807):IntKind.i64.wrap n=n:=by
 simp[IntKind.wrap,IntKind.signed,IntKind.bits];omega
theorem bu(n:Int)(h0:0≤n)(h1:n≤18446744073709551615):IntKind.u64.wrap n=n:=by
 simp[IntKind.wrap,IntKind.signed,IntKind.bits];omega
theorem p7(n:Int)(h0:0≤n)(h1:n≤255):IntKind.u8.wrap n=n:=by
 simp[IntKind.wrap,IntKind.signed,IntKind.bits];omega
attribute [go_sem] ge_iff_le gt_iff_lt DP BJ Bn vt zg tG List.getElem!_toArray List.getElem!_cons_zero List.getElem!_cons_succ
theorem CH(l:List Value):l.toArray.all Value.oneCell'=l.all Value.oneCell':=by simp
theorem cN{α:Type}(l:List α)(n:Nat)(h:l.length=n):l.take n=l:=by subst h;simp
attribute [go_sem↓] CH
end Go.Proofs.YtggohfhfocgilaaGreatAw
namespace Go.Proofs.YtggohfhfocgilaaGreatAw
open Go.RowKit
theorem Rel.nothing{N:Addr→Prop}{w:World}(h:∀a,N a→∃v,w.cell? a=some v):Rel [] (fun _=>none) N w where
 obj id o h:=by simp at h
 inj i j B c c' hi:=by simp at hi
 live:=h
 apart a id B c ha hid:=by simp at hid
theorem ah.walk{P:Program}{f:FuncId}{fn:Func}{body:Code}(hf:P.funcs[f]?=some fn)(hn:(fn.name== "runtime.NumGoroutine")=false)(hb:fn.body=some body){args:List AV}
  (h:ah P f args [] (.ok (.d (.v (.bool true)))) []) (N:Addr→Prop) (w:World) (vals:Array Value) (hN:∀a,N a→∃v,w.cell? a=some v) (hA:oG [] (fun _=>none) N w args vals):
  Calls P f vals w fun e w'=>e= .returned (.bool true)∧Below w.heap.size w w':=by
 rcases h (fun _=>none) N w vals (Rel.nothing hN) hA with⟨_,h⟩|⟨v,w',h,_⟩
 ·refine h.mono ?_
  rintro e w' ⟨φ',N',hR,hS,hE⟩
  refine⟨?_,hS.os,hS.tape,hS.output,hS.size,fun k hk=>hS.cw k hk fun id c hid=>by simp at hid⟩
  cases e with
  |returned v=>rw[RA.closed hE]
  |_=>exact hE.elim
 ·rw[fa hf hn (by rw[hb];rfl)]at h
  cases h
end Go.Proofs.YtggohfhfocgilaaGreatAw

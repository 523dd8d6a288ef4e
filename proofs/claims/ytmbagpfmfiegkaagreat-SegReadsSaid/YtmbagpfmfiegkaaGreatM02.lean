/- Contracts of functions and lemmas for segReads_holds, part 2. -/
import Derived.RangeFuncRecord
import Derived.OrdersIn
import Derived.LoopNIn
import Derived.Test.YtmbagpfmfiegkaaGreatProg
import Derived.KernelRfl
import Derived.ChangeArms
import Derived.Carry
import Derived.WideShapes
import Derived.SizedLaws
import Derived.Test.YtmbagpfmfiegkaaGreatM01
set_option maxHeartbeats 8000000
set_option maxRecDepth 100000
set_option linter.all false
namespace Go.Proofs.YtmbagpfmfiegkaaGreatAw
open Go.RowKit
inductive AX where
 |normal
 |exit (id:Nat)
 |ret
 |panic (v:Value)
def AX.HV:AX→Exit
 | .normal=> .normal
 | .exit id=> .exit id
 | .ret=> .ret
 | .panic v=> .panic [{v:=v,recovered:=false}]
abbrev bH:=AX→(Nat→AV)→aa→Prop
def AX.jump:AX→Option Code
 | .ret=>some .ret
 | .exit id=>some (.exit id)
 |_=>none
inductive lK (m:Nat):AV→Prop
 |top:lK m .top
 |d (x:D):lK m (.d x)
 |eS:lK m .eS
 |ptr (id ver i j:Nat) (h:id<m):lK m (.ptr id ver i j)
 |dt (cs:List D):lK m (.dt cs)
 |sl (id ver off len:Nat) (h:id<m):lK m (.sl id ver off len)
 |agg (cs:List AV) (h:∀i (hi:i<cs.length),lK m (cs[i])):lK m (.agg cs)
 |bz (cs:List AV) (h:∀i (hi:i<cs.length),lK m (cs[i])):lK m (.bz cs)
 |fn (f:FuncId) (cs:List AV) (h:∀i (hi:i<cs.length),lK m (cs[i])):lK m (.fn f cs)
 |mp (id:Nat) (h:id<m):lK m (.mp id)
 |k8 (id:Nat) (h:id<m):lK m (.k8 id)
abbrev Fo(m:Nat)(o:aT):Prop:=(∀e k ver n cs,o= .box e k ver n cs→∀c∈cs,lK m c)∧(∀kk es,o= .mp kk es→∀e∈es,lK m e.2)∧(∀m' since seen,o= .iter m' since seen→m'<m)∧∀r s,o= .lp r s→∀t,lK m (s t)
def mT(m:Nat)(H:aa):Prop:=∀(i:Nat) (o:aT),H[i]?=some o→Fo m o
def yP(P:Program)(G:aa)(id:Nat)(args:List AV)(R:Bool→aa→Prop):Prop:=
 (∃r s,G[id]?=some (.lp r s))∧∀(φ:bI) (N:Addr→Prop) (w:World) (vals:Array Value) (B c:Nat),Rel G φ N w→tF G φ N w args vals→φ id=some (B,c)→
  ∃fn tmps assign body,(Instr.yield B vals).run P w= .ok (.round B fn tmps assign body) w∧RoundIn Fence.wide 0 P B fn tmps assign body w fun e w'=>
   ∃b H' φ' N',e= .returned (.bool b)∧R b H'∧Rel H' φ' N' w'∧aF G φ N w H' φ' N' w'
def Dn(P:Program)(f:FuncId)(args:List AV)(H:aa)(R:lH→aa→Prop):Prop:=
 ∀(φ:bI) (N:Addr→Prop) (w:World) (vals:Array Value),Rel H φ N w→tF H φ N w args vals→
  (callFunc f vals).run P w= .ok (.enter f vals) w∧Calls P f vals w fun e w'=>∃res H' φ' N',R res H'∧Rel H' φ' N' w'∧aF H φ N w H' φ' N' w'∧vN H' φ' N' w' res e
def vy(r:Loop)(c:Code):Loop:={r with state:= .done,pending:=some c}
def Fj(P:Program)(gf:FuncId)(caps:List AV)(C:aa→Prop)(xs:List (List AV)):Prop:=
 ∀(r:Loop) (s:Nat→AV) (J:Nat→aa→Prop) (Jx:Code→aa→Prop) (m:Nat) (Hs:aa),J 0 Hs→(∀t,lK m (s t))→(∀k Hk,J k Hk→C Hk∧mT m Hk∧Hk.length=m)→
  (∀k (hk:k<xs.length) Hk T,J k Hk→yP P (Hk++ .lp r s::T) m (xs[k]) fun b G=>if b=true then ∃Hk',J (k+1) Hk'∧G=Hk'++ .lp r s::T else ∃Hk' c,Jx c Hk'∧mT m Hk'∧Hk'.length=m∧G=Hk'++ .lp (vy r c) s::T)→
  Dn P gf (.k8 m::caps) (Hs++[.lp r s]) fun res G=>res= .ok (.bz [])∧((∃Hn,J xs.length Hn∧G=Hn++[.lp r s])∨∃Hx c,Jx c Hx∧Hx.length=m∧G=Hx++[.lp (vy r c) s])
def cv(n:Nat)(s:Nat→AV)(d:Option Tmp)(v:AV):Nat→AV:=
 match d with
 |some d=>fun t=>if t=d then(if d<n then v else .top)else s t
 |none=>s
def aN(P:Program)(hint:Nat→Bool)(s:Nat→AV)(H:aa)(o:Oper)(K:AV→aa→Prop)(KP:Value→aa→Prop):Prop:=
 match o.op with
 | .panic x=>(match closed (ao s x)with|some (.iface t u)=>KP (.iface t u) H|_=>False)
 | .call c=>(match c.callee with
  | .value f=>(match ao s f with
   | .fn g caps=>∃res H',ag P g (c.args.toList.map (ao s)++caps) H res H'∧(match res with| .ok r=>K r H'| .panic v=>KP v H')
   | .k8 id=>hint 3000000=true∧∃R,yP P H id (c.args.toList.map (ao s)) R∧∀b H',R b H'→K (.d (.v (.bool b))) H'
   |_=>False)
  | .builtin b=>df P s H b c.args.toList c.argTypes.toList K
  |_=>False)
 |op=>iQ P s H (match o.dst with|some d=>hint d|none=>false) op K
def MF(want:Bool):AV→Option Bool
 | .d (.v (.bool b))=>some (b==want)
 | .bz []=>some false
 |_=>none
def iP(ops:Array Oper)(s:Nat→AV)(n:Nat)(j:Nat)(want:Bool):Option Bool:=
 match(ops[j]?).bind (·.dst)with
 |some d=>if d<n then MF want (s d)else none
 |none=>none
def ek(P:Program)(hint:Nat→Bool)(n:Nat)(ops:Array Oper)(Q:bH)(o:Oper)(K:(Nat→AV)→aa→Prop)(s:Nat→AV)(H:aa):Prop:=
 match o.guard with
 |none=>aN P hint s H o (fun r H'=>K (cv n s o.dst r) H') fun v H'=>Q (.panic v) s H'
 |some (j,want)=>(match iP ops s n j want with
  |some b=>if b=true then aN P hint s H o (fun r H'=>K (cv n s o.dst r) H') (fun v H'=>Q (.panic v) s H')else K (cv n s o.dst (.bz [])) H
  |none=>False)
def bK(P:Program)(hint:Nat→Bool)(n:Nat)(ops:Array Oper)(Q:bH):List Oper→(Nat→AV)→aa→Prop
 |[],s,H=>Q .normal s H
 |o::rest,s,H=>ek P hint n ops Q o (bK P hint n ops Q rest) s H
def iM(P:Program)(hint:Nat→Bool)(n:Nat)(ops:Array Oper)(Q:bH):Nat→Array Bool→(Nat→AV)→aa→Prop
 |0,listed,s,H=>Region.ready .any ops listed=[]∧Q .normal s H
 |fuel+1,listed,s,H=>(Region.ready .any ops listed=[]→Q .normal s H)∧
   ∀i∈Region.ready .any ops listed,match ops[i]? with
    |none=>iM P hint n ops Q fuel (listed.setIfInBounds i true) s H
    |some o=>ek P hint n ops Q o (iM P hint n ops Q fuel (listed.setIfInBounds i true)) s H
def mu(H:aa)(m:Nat):AV→AV
 | .ptr id v i j=>if id<m then .ptr id v i j else .top
 | .mp id=>if id<m then .mp id else .top
 | .k8 id=>if id<m then .k8 id else .top
 | .sl id v off len=>if id<m then .sl id v off len else match H[id]? with
  |some (.arr _ _ ver es)=>if ver=v then .d (.list false ((es.drop off).take len))else .top
  |_=> .top
 | .agg _=> .top
 | .bz _=> .top
 | .fn f []=> .fn f []
 | .fn _ _=> .top
 |x=>x
def K4(H:aa)(m:Nat):AV→AV
 | .agg cs=> .agg (cs.map (mu H m))
 | .fn f cs=> .fn f (cs.map (mu H m))
 |x=>mu H m x
def sx(H:aa)(m:Nat):AV→AV
 | .bz cs=> .bz (cs.map (K4 H m))
 |x=>K4 H m x
def ld(m:Nat):AV→Bool
 | .ptr id _ _ _=>decide (id<m)
 | .mp id=>decide (id<m)
 | .k8 id=>decide (id<m)
 | .sl id _ _ _=>decide (id<m)
 | .agg _=>false
 | .bz _=>false
 | .fn _ cs=>cs.isEmpty
 |_=>true
def kZ(m:Nat):AV→Bool
 | .agg cs=>cs.all (ld m)
 | .fn _ cs=>cs.all (ld m)
 |x=>ld m x
def aT.below(m:Nat):aT→Bool
 | .arr _ _ _ _=>true
 | .box _ _ _ _ cs=>cs.all (kZ m)
 | .mp _ es=>es.all fun e=>kZ m e.2
 | .dead _=>true
 | .iter m' _ _=>decide (m'<m)
 | .lp _ _=>false
inductive ay (H0:aa):(Nat→AV)→aa→(Nat→AV)→aa→Prop
 |refl (s:Nat→AV) (H:aa):ay H0 s H s H
 |zS (s:Nat→AV) (H:aa) (m:Nat) (hm:H0.length≤m) (hl:m≤H.length) (h:∀i o,i<m→H[i]?=some o→H0[i]?=some o∨o.below m=true):ay H0 s H (fun t=>sx H m (s t)) (H.take m)
 |more (s:Nat→AV) (H:aa) (e:TypeId) (k:Nat) (hk:0<k):ay H0 s H s (H++[.arr e k 0 []])
 |G9 (s:Nat→AV) (H:aa) (t id:Nat) (e:TypeId) (k ver n:Nat) (ds:List D) (ho:H[id]?=some (.box e k ver n (ds.map AV.d))) (hs:s t= .ptr id ver 0 0):ay H0 s H (fun u=>if u=t then .dt ds else s u) (H.set id (.arr e k (ver+1) []))
 |mF (s:Nat→AV) (H:aa) (id:Nat) (e0:TypeId) (k0 ver m:Nat) (cs:List AV) (j:Nat) (x:AV) (e:TypeId) (k:Nat) (hk:0<k) (ho:H[id]?=some (.box e0 k0 ver m cs)) (hj:cs[j]?=some x) (hx:isNone x=true):
   ay H0 s H s (H.set id (.box e0 k0 ver m (cs.set j (.sl H.length 0 0 0)))++[.arr e k 0 []])
 |Ia (s:Nat→AV) (H:aa) (t:Nat) (e:TypeId) (k ver:Nat) (hk:0<k) (h:isNone (s t)=true):ay H0 s H (fun u=>if u=t then .sl H.length ver 0 0 else s u) (H++[.arr e k ver []])
 |imp (s s':Nat→AV) (H:aa) (h:∀φ N w u v,RA H φ N w (s u) v→RA H φ N w (s' u) v):ay H0 s H s' H
 |Gv (s:Nat→AV) (H:aa) (m:Nat) (hm:H0.length≤m) (hl:m≤H.length) (h:∀i o,i<m→H[i]?=some o→H0[i]?=some o∨Fo m o):ay H0 s H (fun t=>sx H m (s t)) (H.take m)
 |trans {s1 s2 s3:Nat→AV} {H1 H2 H3:aa} (h:ay H0 s1 H1 s2 H2) (g:ay H0 s2 H2 s3 H3):ay H0 s1 H1 s3 H3
def Ij:Code→Option Nat
 | .region id _ _=>some id
 | .seq x _=>Ij x
 |_=>none
def fu(hint:Nat→Bool)(c:Code):Bool:=match Ij c with|some r=>hint (r+1000000)|none=>false
def kW(n:Nat)(s:Nat→AV)(ps:List Tmp)(xs:List AV):Nat→AV:=(ps.zip xs).foldl (fun s p=>cv n s (some p.1) p.2) s
def dQ(P:Program):(Nat→Bool)→Nat→aa→Code→bH→(Nat→AV)→aa→Prop
 |_,_,_,.skip,Q,s,H=>Q .normal s H
 |_,_,_,.label _,Q,s,H=>Q .normal s H
 |hint,n,H0,.scope x,Q,s,H=>dQ P hint n H0 x Q s H
 |hint,n,_,.region _ ops draw,Q,s,H=>if draw then P.follows .mixedOrders=true∧iM P hint n ops Q ops.size (Array.replicate ops.size false) s H else bK P hint n ops Q ops.toList s H
 |hint,n,H0,.seq x y,Q,s,H=>dQ P hint n H0 x (fun e s' H'=>match e with| .normal=>(if fu hint y=true then ∃s'' H'',ay H0 s' H' s'' H''∧dQ P hint n H0 y Q s'' H'' else dQ P hint n H0 y Q s' H')|e=>Q e s' H') s H
 |hint,n,H0,.cond c x y,Q,s,H=>(match ao s c with| .d (.v (.bool b))=>if b=true then dQ P hint n H0 x Q s H else dQ P hint n H0 y Q s H|_=>False)
 |hint,n,H0,.block id x,Q,s,H=>dQ P hint n H0 x (fun e s' H'=>match e with| .exit i=>if i=id then Q .normal s' H' else Q (.exit i) s' H'|e=>Q e s' H') s H
 |hint,n,H0,.loop x,Q,s,H=>∃(I:Nat→(Nat→AV)→aa→Prop) (m:Nat),(∃s' H',ay H0 s H s' H'∧I m s' H')∧
   ∀m s H,I m s H→dQ P hint n H0 x (fun e s' H'=>match e with| .normal=>∃s'' H'' m',ay H0 s' H' s'' H''∧I m' s'' H''∧m'<m|e=>Q e s' H') s H
 |_,_,_,.exit id,Q,s,H=>Q (.exit id) s H
 |_,_,_,.ret,Q,s,H=>Q .ret s H
 |hint,n,H0,.rangeFunc g ps x y,Q,s,H=>hint 2000000=true∧∃(hint':Nat→Bool) (gf:FuncId) (caps:List AV) (xs:List (List AV)) (C:aa→Prop) (I:Nat→aa→Prop) (Ix:AX→aa→Prop) (s0:Nat→AV) (H1:aa),
   hint' 2000000=false∧ay H0 s H s0 H1∧ao s0 g= .fn gf caps∧Fj P gf caps C xs∧(∀v∈xs,v.length=ps.size∧∀u∈v,lK H1.length u)∧I 0 H1∧(∀k Hk,I k Hk→C Hk∧Hk.length=H1.length)∧
   (∀k (hk:k<xs.length) Hk,I k Hk→dQ P hint' n Hk x (fun e s1 H2=>match e with
    | .normal=>dQ P hint' n Hk y (fun e s2 H3=>∃s3 H4,ay Hk s2 H3 s3 H4∧H4.length=H1.length∧(match e with| .normal=>I (k+1) H4| .panic _=>False|e=>Ix e H4)) s1 H2
    |_=>False) (kW n s0 ps.toList (xs[k])) Hk)∧
   (∀Hn,I xs.length Hn→Q .normal s0 Hn)∧∀e Hx,Ix e Hx→Q e s0 Hx
 |_,_,_,_,_,_,_=>False
structure DS where
 marks:Bool
 l:List Deferred
def Marks(b0:Nat)(H:aa)(φ:bI)(w:World):List Deferred→Prop
 |[]=>True
 |d::ds=>(∃D,b0≤D∧d={target:= .collected D,args:=#[]}∧w.heap[D]?=some (.deferred (some []))∧(∀id c,id<H.length→φ id≠some (D,c))∧∀d'∈ds,d'≠d)∧Marks b0 H φ w ds
theorem Marks.mono{b0:Nat}{H H':aa}{φ φ':bI}{w w':World}(h:∀D,D<w.heap.size→b0≤D→w.heap[D]?=some (.deferred (some []))→(∀id c,id<H.length→φ id≠some (D,c))→w'.heap[D]?=w.heap[D]?∧∀id c,id<H'.length→φ' id≠some (D,c)):
  ∀{ds:List Deferred},Marks b0 H φ w ds→Marks b0 H' φ' w' ds
 |[],_=>trivial
 |d::ds,⟨⟨D,h0,h1,h2,h3,h4⟩,h5⟩=>by
  obtain⟨g1,g2⟩:=h D (Array.getElem?_eq_some_iff.1 h2).1 h0 h2 h3
  exact⟨⟨D,h0,h1,g1.trans h2,g2,h4⟩,Marks.mono h h5⟩
def jn(ds:DS)(b0:Nat)(H:aa)(φ:bI)(w:World)(l:List Deferred):Prop:=∃ms,l=ms++ds.l∧(ds.marks=false→ms=[])∧Marks b0 H φ w ms
theorem jn.refl{ds:DS}{b0:Nat}{H:aa}{φ:bI}{w:World}:jn ds b0 H φ w ds.l:=⟨[],rfl,fun _=>rfl,trivial⟩
theorem jn.eq{l l':List Deferred}{b0:Nat}{H:aa}{φ:bI}{w:World}(h:jn ⟨false,l⟩ b0 H φ w l'):l'=l:=by
 obtain⟨ms,h1,h2,_⟩:=h
 rw[h1,h2 rfl];rfl
theorem jn.mono{ds:DS}{b0:Nat}{H H':aa}{φ φ':bI}{w w':World}(h:∀D,D<w.heap.size→b0≤D→w.heap[D]?=some (.deferred (some []))→(∀id c,id<H.length→φ id≠some (D,c))→w'.heap[D]?=w.heap[D]?∧∀id c,id<H'.length→φ' id≠some (D,c))
  {l:List Deferred} (hl:jn ds b0 H φ w l):jn ds b0 H' φ' w' l:=by
 obtain⟨ms,h1,h2,h3⟩:=hl
 exact⟨ms,h1,h2,h3.mono h⟩
theorem jn.since{ds:DS}{b0:Nat}{H H':aa}{φ φ':bI}{N N':Addr→Prop}{w w':World}(hS:aF H φ N w H' φ' N' w'){l:List Deferred}(hl:jn ds b0 H φ w l):jn ds b0 H' φ' w' l:=
 hl.mono fun D hD _ _ hn=>⟨hS.ev D hD hn,fun id c hid hp=>by
  obtain⟨id0,c0,h1,h2⟩:=hS.own id D c hid hp hD
  exact hn id0 c0 h1 h2⟩
structure Inv (H0:aa) (φ0:bI) (N0:Addr→Prop) (w0:World) (n:Nat) (ds:DS) (s:Nat→AV) (H:aa) (φ:bI) (N:Addr→Prop) (a:Act) (w:World):Prop where
 rel:Rel H φ N w
 tmps:cO H φ N w s a
 since:aF H0 φ0 N0 w0 H φ N w
 size:a.tmps.size=n
 defers:jn ds w0.heap.size H φ w a.defers
section
variable {P:Program} {H0:aa} {φ0:bI} {N0:Addr→Prop} {w0:World} {n:Nat} {ds:DS} {hint:Nat→Bool}
def mv(H0:aa)(φ0:bI)(N0:Addr→Prop)(w0:World)(n:Nat)(ds:DS)(Q:bH):Exit→Act→World→Prop:=fun e a w=>
 ∃x s H φ N,e=AX.HV x∧Q x s H∧Inv H0 φ0 N0 w0 n ds s H φ N a w
theorem cO.put{H:aa}{φ:bI}{N:Addr→Prop}{w:World}{s:Nat→AV}{a:Act}(hT:cO H φ N w s a){d:Option Tmp}{r:AV}{x:Value}(hr:RA H φ N w r x)(hs:a.tmps.size=n):
  cO H φ N w (cv n s d r) (a.put d x):=by
 intro t
 cases d with
 |none=>exact hT t
 |some d=>
  simp only[cv,Act.put]
  by_cases h1:t=d
  ·subst h1
   rw[if_pos rfl]
   by_cases h2:t<n
   ·rw[if_pos h2]
    simpa[Array.getD,Array.size_setIfInBounds,hs,h2]using hr
   ·rw[if_neg h2];exact .top _
  ·rw[if_neg h1]
   have:=hT t
   by_cases h2:t<a.tmps.size
   ·simpa[Array.getD,Array.size_setIfInBounds,h2,Array.getElem_setIfInBounds_ne _ (Ne.symm h1)]using this
   ·simpa[Array.getD,Array.size_setIfInBounds,h2]using this
theorem GV(a:Act)(d:Option Tmp)(v:Value):(a.put d v).tmps.size=a.tmps.size:=by cases d<;>simp[Act.put]
theorem put_defers(a:Act)(d:Option Tmp)(v:Value):(a.put d v).defers=a.defers:=by cases d<;>rfl
theorem Inv.put{s:Nat→AV}{H H':aa}{φ φ':bI}{N N':Addr→Prop}{a:Act}{w w':World}(h:Inv H0 φ0 N0 w0 n ds s H φ N a w)(hR:Rel H' φ' N' w')(hS:aF H φ N w H' φ' N' w'){r:AV}{x:Value}(hr:RA H' φ' N' w' r x)(d:Option Tmp):
  Inv H0 φ0 N0 w0 n ds (cv n s d r) H' φ' N' (a.put d x) w' where
 rel:=hR
 tmps:=cO.put (fun t=>(h.tmps t).since h.rel hS) hr h.size
 since:=h.since.trans hS
 size:=(GV _ _ _).trans h.size
 defers:=by rw[put_defers];exact h.defers.since hS
def fP(F:Fence):Prop:=F=Fence.wide∨∃l,F=Fence.wide.inRound l
theorem fP.fn{F:Fence}(h:fP F)(f:FuncId):F.fn f:=by
 rcases h with rfl|⟨l,rfl⟩<;>exact trivial
theorem fP.none{F:Fence}(h:fP F):¬F.depth.isSome=true:=by
 rcases h with rfl|⟨l,rfl⟩<;>(intro h;cases h)
theorem fP.calls{F:Fence}(h:fP F){n:Nat}{f:FuncId}{args:Array Value}{w:World}{R:Ending→World→Prop}(hc:Calls P f args w R):CallsIn F n P f args w R:=by
 rcases h with rfl|⟨l,rfl⟩<;>exact callsIn_wide.2 hc
theorem fP.Iz{F:Fence}(h:fP F){n:Nat}{l:Nat}{f:FuncId}{tmps:Array Value}{x y:Code}{w:World}{R:Ending→World→Prop}(hc:RoundIn Fence.wide 0 P l f tmps x y w R):RoundIn F n P l f tmps x y w R:=by
 have:RoundIn Fence.wide n P l f tmps x y w R:=⟨hc.1,fun c cs _=>hc.2 c cs (room_wide _)⟩
 rcases h with rfl|⟨l,rfl⟩<;>exact this
variable {F:Fence}
theorem Gz(hF:fP F){s:Nat→AV}{H:aa}{φ:bI}{N:Addr→Prop}{a:Act}{w:World}{o:Oper}(hI:Inv H0 φ0 N0 w0 n ds s H φ N a w){K:AV→aa→Prop}{KP:Value→aa→Prop}(h:aN P hint s H o K KP)
  {next:Act→World→Prop} {Q:Exit→Act→World→Prop}
  (hn:∀r H' φ' N' x w',K r H'→Rel H' φ' N' w'→aF H φ N w H' φ' N' w'→RA H' φ' N' w' r x→next (a.put o.dst x) w')
  (hp:∀v H' φ' N' w',KP v H'→Rel H' φ' N' w'→aF H φ N w H' φ' N' w'→Q (.panic [{v:=v,recovered:=false}]) a w'):o.wpIn F 0 P a w next Q:=by
 have plain:(∀c,o.op≠ .defer c)→∀r H',K r H'∧dd P o a w H φ N r H'→o.wpIn F 0 P a w next Q:=by
  rintro hd r H' ⟨hK,x,w',φ',N',hrun,hR,hS,hr⟩
  refine⟨fun f _=>hF.fn f,?_⟩
  rw[Oper.semAt_eq _ _ _ hd]
  rcases hrun with hrun|⟨hrun,rfl⟩
  ·rw[hrun];exact hn r H' φ' N' x w' hK hR hS hr
  ·rw[hrun];exact hn r H' φ' N' undef w' hK hR hS hr
 unfold aN at h
 split at h
 ·rename_i x ho
  split at h
  ·rename_i t u hx
   have hv:=cI (aB hI.tmps x) hx
   refine⟨fun f _=>hF.fn f,?_⟩
   rw[Oper.semAt_eq _ _ _ fun c e=>by rw[ho]at e;cases e]
   have hrun:(execOp a.eval o).run P w= .halt (.panic (.iface t u)) w:=by simp[execOp,ho,hv,Instr.panic,goPanic]
   rw[hrun]
   exact hp _ H φ N w h hI.rel aF.refl
  ·exact h.elim
 ·rename_i c ho
  split at h
  ·rename_i f hc
   split at h
   ·rename_i g caps hf
    obtain⟨res,H',hD,h⟩:=h
    have hfv:=aB hI.tmps f
    rw[hf]at hfv
    generalize hfe:a.eval f=fv at hfv
    cases hfv with
    |fn _ _ vs hl hh=>
    have hargs:tF H φ N w (c.args.toList.map (ao s)++caps) (c.args.map a.eval++vs):=by
     refine⟨by simp[hl],fun i h1 h2=>?_⟩
     by_cases hi:i<c.args.size
     ·rw[List.getElem_append_left (by simpa using hi),Array.getElem_append_left (by simpa using hi)]
      simp only[List.getElem_map,Array.getElem_map,Array.getElem_toList]
      exact aB hI.tmps _
     ·rw[List.getElem_append_right (by simpa using hi),Array.getElem_append_right (by simpa using hi)]
      simp only[List.length_map,Array.length_toList,Array.size_map]
      exact hh _ (by simp at h1;omega) (by simp at h2;omega)
    have hcall:=hD φ N w _ hI.rel hargs
    have hex:∀r,(callFunc g (c.args.map a.eval++vs)).run P w=r→(execOp a.eval o).run P w=r:=by
     intro r hr
     simp[execOp,ho,resolve,hc,hfe,Deferred.ofValue,invoke,hr]
    refine⟨fun f _=>hF.fn f,?_⟩
    rw[Oper.semAt_eq _ _ _ fun c e=>by rw[ho]at e;cases e]
    rcases hcall with⟨hrun,hC⟩|⟨v,w',hrun,φ',N',hR,hS,hE⟩
    ·rw[hex _ hrun]
     refine⟨fun h=>absurd h hF.none,hF.calls (Calls.mono hC ?_)⟩
     rintro e w' ⟨φ',N',hR,hS,hE⟩
     cases res with
     |ok r=>
      cases e with
      |returned v=>exact hn r H' φ' N' v w' h hR hS hE
      |panicked ch=>exact hE.elim
      |outgrown=>exact hE.elim
     |panic v=>
      cases e with
      |returned _=>exact hE.elim
      |panicked ch=>
       cases ch with
       |nil=>exact hE.elim
       |cons p ps=>
        cases ps with
        |nil=>
         have:p={v:=v,recovered:=false}:=hE
         subst this
         exact hp v H' φ' N' w' h hR hS
        |cons _ _=>exact hE.elim
      |outgrown=>exact hE.elim
    ·rw[hex _ hrun]
     cases res with
     |ok r=>exact hn r H' φ' N' v w' h hR hS hE
     |panic _=>exact hE.elim
   ·rename_i id hf
    obtain⟨_,R,⟨⟨r0,s0,hlp⟩,hY⟩,hK⟩:=h
    have hfv:=aB hI.tmps f
    rw[hf]at hfv
    generalize hfe:a.eval f=fv at hfv
    cases hfv with
    |k8 _ B o' ho' hp'=>
    rw[hlp]at ho';cases ho'
    obtain⟨c0,hp0⟩:=hp' rfl
    have hargs:tF H φ N w (c.args.toList.map (ao s)) (c.args.map a.eval):=by
     refine⟨by simp,fun i h1 h2=>?_⟩
     simp only[List.getElem_map,Array.getElem_map,Array.getElem_toList]
     exact aB hI.tmps _
    obtain⟨fn,tmps,x,y,hrun,hRd⟩:=hY φ N w _ B c0 hI.rel hargs hp0
    refine⟨fun f _=>hF.fn f,?_⟩
    rw[Oper.semAt_eq _ _ _ fun c e=>by rw[ho]at e;cases e]
    have hex:(execOp a.eval o).run P w= .ok (.round B fn tmps x y) w:=by
     simp[execOp,ho,resolve,hc,hfe,Deferred.ofValue,invoke,hrun]
    rw[hex]
    refine⟨fun h=>absurd h hF.none,hF.Iz (RoundIn.mono hRd ?_)⟩
    rintro e w' ⟨b,H',φ',N',rfl,hb,hR,hS⟩
    exact hn _ H' φ' N' _ w' (hK b H' hb) hR hS (.d (.v _ rfl))
   ·exact h.elim
  ·rename_i b hc
   obtain⟨r,H',hK,hok⟩:=qJ hI.rel hI.tmps ho hc h
   exact plain (fun c e=>by rw[ho]at e;cases e) r H' ⟨hK,hok⟩
  ·exact h.elim
 ·have hd:∀c,o.op≠ .defer c:=fun c e=>by
   rw[e]at h
   exact h
  obtain⟨r,H',hK,hok⟩:=Kt hI.rel hI.tmps h
  exact plain hd r H' ⟨hK,hok⟩
theorem zl(hF:fP F){ops:Array Oper}{Q:bH}{s:Nat→AV}{H:aa}{φ:bI}{N:Addr→Prop}{a:Act}{w:World}{o:Oper}(hI:Inv H0 φ0 N0 w0 n ds s H φ N a w){K:(Nat→AV)→aa→Prop}(h:ek P hint n ops Q o K s H)
  {next:Act→World→Prop} (hn:∀s' H' φ' N' a' w',K s' H'→Inv H0 φ0 N0 w0 n ds s' H' φ' N' a' w'→next a' w'):
  if Region.wanted o (yielded ops a.tmps)then o.wpIn F 0 P a w next (mv H0 φ0 N0 w0 n ds Q)else(∀f,o.about P w a.eval=some f→F.fn f)∧next (a.put o.dst undef) w:=by
 have step:aN P hint s H o (fun r H'=>K (cv n s o.dst r) H') (fun v H'=>Q (.panic v) s H')→o.wpIn F 0 P a w next (mv H0 φ0 N0 w0 n ds Q):=fun h=>
  Gz hF hI h (fun r H' φ' N' x w' hK hR hS hr=>hn _ _ φ' N' _ _ hK (hI.put hR hS hr _))
   (fun v H' φ' N' w' hq hR hS=>⟨.panic v,s,H',φ',N',rfl,hq,hR,fun t=>(hI.tmps t).since hI.rel hS,hI.since.trans hS,hI.size,hI.defers.since hS⟩)
 unfold ek at h
 split at h
 ·rename_i hg
  have:Region.wanted o (yielded ops a.tmps)=true:=by simp[Region.wanted,hg]
  rw[if_pos this]
  exact step h
 ·rename_i j want hg
  split at h
  ·rename_i b hb
   have hw:Region.wanted o (yielded ops a.tmps)=b:=by
    unfold iP at hb
    split at hb
    ·rename_i d hd
     split at hb
     ·rename_i hdn
      have:=hI.tmps d
      have hlt:d<a.tmps.size:=by rw[hI.size];exact hdn
      simp only[Array.getD,hlt,dif_pos]at this
      have this:RA H φ N w (s d) a.tmps[d]:=this
      unfold MF at hb
      split at hb
      ·rename_i b' hs
       cases hb
       rw[hs]at this
       have hv:=this.closed
       have hv':a.tmps[d]= .bool b':=hv
       simp[Region.wanted,hg,yielded,hd,hlt,hv']
      ·rename_i hs
       cases hb
       rw[hs]at this
       generalize hx:a.tmps[d]=x at this
       cases this with
       |bz cs vs hl h=>
        simp[Region.wanted,hg,yielded,hd,hlt,hx]
      ·cases hb
     ·cases hb
    ·cases hb
   cases b with
   |true=>
    rw[if_pos rfl]at h
    rw[if_pos hw]
    exact step h
   |false=>
    rw[if_neg (by simp)]at h
    rw[if_neg (by simp[hw])]
    exact⟨fun f _=>hF.fn f,hn _ _ φ N _ _ h (hI.put hI.rel aF.refl (.bz [] #[] rfl fun i h=>by simp at h) _)⟩
  ·exact h.elim
theorem sa(hF:fP F){ops:Array Oper}{Q:bH}:∀(l:List Oper) (k:Nat),(∀j,l[j]?=ops[k+j]?)→∀{s:Nat→AV} {H:aa} {φ:bI} {N:Addr→Prop} {a:Act} {w:World},Inv H0 φ0 N0 w0 n ds s H φ N a w→
  bK P hint n ops Q l s H→wpOpsIn F 0 P ops (mv H0 φ0 N0 w0 n ds Q) (List.range' k l.length) a w
 |[],k,hl,s,H,φ,N,a,w,hI,h=>⟨.normal,s,H,φ,N,rfl,h,hI⟩
 |o::rest,k,hl,s,H,φ,N,a,w,hI,h=>by
  have h0:ops[k]?=some o:=by simpa using(hl 0).symm
  simp only[List.length_cons,List.range'_succ]
  rw[wpOpsIn_cons]
  unfold wpOpIn
  simp only[h0]
  exact zl hF hI h fun s' H' φ' N' a' w' hK hI'=>sa hF rest (k+1) (fun j=>by have:=hl (j+1);rw[List.getElem?_cons_succ]at this;rw[this];congr 1;omega) hI' hK
theorem p0(hF:fP F){ops:Array Oper}{Q:bH}:∀(fuel:Nat) (listed:Array Bool) {s:Nat→AV} {H:aa} {φ:bI} {N:Addr→Prop} {a:Act} {w:World},Inv H0 φ0 N0 w0 n ds s H φ N a w→
  iM P hint n ops Q fuel listed s H→wpAnyIn F 0 P .any ops (mv H0 φ0 N0 w0 n ds Q) fuel listed a w
 |0,listed,s,H,φ,N,a,w,hI,h=>⟨h.1,.normal,s,H,φ,N,rfl,h.2,hI⟩
 |fuel+1,listed,s,H,φ,N,a,w,hI,h=>by
  refine⟨fun hr=>⟨.normal,s,H,φ,N,rfl,h.1 hr,hI⟩,fun i hi=>?_⟩
  have hi':=h.2 i hi
  unfold wpOpIn
  split at hi'
  ·rename_i hop
   simp only[hop]
   exact p0 hF fuel _ hI hi'
  ·rename_i o hop
   simp only[hop]
   exact zl hF hI hi' fun s' H' φ' N' a' w' hK hI'=>p0 hF fuel _ hI' hK
theorem lK.mono{m m':Nat}{x:AV}(h:lK m x)(hm:m≤m'):lK m' x:=by
 induction h with
 |top=>exact .top
 |d=>exact .d _
 |eS=>exact .eS
 |ptr _ _ _ _ h=>exact .ptr _ _ _ _ (by omega)
 |dt=>exact .dt _
 |sl _ _ _ _ h=>exact .sl _ _ _ _ (by omega)
 |agg cs _ ih=>exact .agg cs ih
 |bz cs _ ih=>exact .bz cs ih
 |fn f cs _ ih=>exact .fn f cs ih
 |mp _ h=>exact .mp _ (by omega)
 |k8 _ h=>exact .k8 _ (by omega)
theorem RA.bel{H:aa}{φ:bI}{N:Addr→Prop}{w:World}{x:AV}{v:Value}(h:RA H φ N w x v):lK H.length x:=by
 induction h with
 |top=>exact .top
 |d=>exact .d _
 |eS=>exact .eS
 |ptr id ver i j A o ho=>exact .ptr _ _ _ _ (az ho)
 |dt=>exact .dt _
 |sl id ver off len A l m o ho=>exact .sl _ _ _ _ (az ho)
 |agg cs vs hl _ ih=>exact .agg cs fun i hi=>ih i hi (by omega)
 |bz cs vs hl _ ih=>exact .bz cs fun i hi=>ih i hi (by omega)
 |fn f cs vs hl _ ih=>exact .fn f cs fun i hi=>ih i hi (by omega)
 |mp id B c kk es ho=>exact .mp _ (az ho)
 |k8 id B o ho=>exact .k8 _ (az ho)
theorem Ky{m:Nat}{x:AV}(h:ld m x=true):lK m x:=by
 cases x with
 |top=>exact .top
 |d=>exact .d _
 |eS=>exact .eS
 |ptr id _ _ _=>exact .ptr _ _ _ _ (by simpa[ld]using h)
 |dt=>exact .dt _
 |sl id _ _ _=>exact .sl _ _ _ _ (by simpa[ld]using h)
 |agg=>cases h
 |bz=>cases h
 |fn f cs=>
  have:cs=[]:=by simpa[ld]using h
  subst this
  exact .fn f [] fun i hi=>by simp at hi
 |mp id=>exact .mp _ (by simpa[ld]using h)
 |k8 id=>exact .k8 _ (by simpa[ld]using h)
theorem J9{m:Nat}{x:AV}(h:kZ m x=true):lK m x:=by
 cases x with
 |agg cs=>
  simp only[kZ,List.all_eq_true]at h
  exact .agg cs fun i hi=>Ky (h _ (List.getElem_mem hi))
 |fn f cs=>
  simp only[kZ,List.all_eq_true]at h
  exact .fn f cs fun i hi=>Ky (h _ (List.getElem_mem hi))
 |_=>exact Ky h
def j7(H:aa)(φ:bI)(m:Nat)(N:Addr→Prop):Addr→Prop:=fun a=>
 N a∨∃id B c e k ver es,m≤id∧H[id]?=some (.arr e k ver es)∧φ id=some (B,c)∧a.block=B∧a.spot=none∧a.off<es.length* k
theorem jz{H:aa}{m id:Nat}(h:id<m):(H.take m)[id]?=H[id]?:=by rw[List.getElem?_take,if_pos h]
theorem RD.frozen{H:aa}{φ:bI}{m:Nat}{N:Addr→Prop}{w:World}{x:D}{v:Value}(h:RD N w x v):RD (j7 H φ m N) w x v:=h.mono (fun _ h=> .inl h) fun _ _ _ h=>h
theorem RA.take{H:aa}{φ:bI}{N:Addr→Prop}{w:World}{x:AV}{v:Value}(h:RA H φ N w x v){m:Nat}(hb:lK m x):RA (H.take m) φ (j7 H φ m N) w x v:=by
 induction h with
 |top=>exact .top _
 |d hd=>exact .d hd.frozen
 |eS=>exact .eS _
 |ptr id ver i j A o ho hv hp=>cases hb with|ptr _ _ _ _ h=>exact .ptr _ _ _ _ _ o (by rw[jz h];exact ho) hv hp
 |dt cs ad c hc hd=>exact .dt cs ad c (fun t ht=>⟨.inl (hc t ht).1,(hc t ht).2⟩) fun t ht=>(hd t ht).frozen
 |sl id ver off len A l m' o ho hv hp=>cases hb with|sl _ _ _ _ h=>exact .sl _ _ _ _ _ _ _ o (by rw[jz h];exact ho) hv hp
 |agg cs vs hl _ ih=>cases hb with|agg _ hb=>exact .agg cs vs hl fun i h1 h2=>ih i h1 h2 (hb i h1)
 |bz cs vs hl _ ih=>cases hb with|bz _ hb=>exact .bz cs vs hl fun i h1 h2=>ih i h1 h2 (hb i h1)
 |fn f cs vs hl _ ih=>cases hb with|fn _ _ hb=>exact .fn f cs vs hl fun i h1 h2=>ih i h1 h2 (hb i h1)
 |mp id B c kk es ho hp=>cases hb with|mp _ h=>exact .mp id B c kk es (by rw[jz h];exact ho) hp
 |k8 id B o ho hp=>cases hb with|k8 _ h=>exact .k8 id B o (by rw[jz h];exact ho) hp
theorem wh{H:aa}{φ:bI}{N:Addr→Prop}{w:World}(hR:Rel H φ N w)(m:Nat){x:AV}{v:Value}(h:RA H φ N w x v):RA (H.take m) φ (j7 H φ m N) w (mu H m x) v:=by
 cases x with
 |ptr id ver i j=>
  simp only[mu]
  split
  ·rename_i hlt;exact h.take (.ptr _ _ _ _ hlt)
  ·exact .top _
 |mp id=>
  simp only[mu]
  split
  ·rename_i hlt;exact h.take (.mp _ hlt)
  ·exact .top _
 |k8 id=>
  simp only[mu]
  split
  ·rename_i hlt;exact h.take (.k8 _ hlt)
  ·exact .top _
 |sl id ver off len=>
  simp only[mu]
  split
  ·rename_i hlt;exact h.take (.sl _ _ _ _ hlt)
  ·rename_i hge
   split
   ·rename_i e k v' es hob
    split
    ·rename_i hv
     subst hv
     cases h with
     |sl _ _ _ _ A l m' o ho hv hp=>
     rw[hob]at ho;cases ho
     obtain⟨rfl,h1,h2⟩:=hp rfl
     simp only[aT.len]at h1
     by_cases hl0:l=0
     ·subst hl0
      simp only[List.take_zero]
      exact .d (.nil _ _ (by rcases h2 with⟨_,_,_,rfl⟩|⟨B,c,_,_,rfl,_⟩;exact fun _=>rfl;exact fun h=>by cases h))
     rcases h2 with⟨_,h3,_⟩|⟨B,c,h3,h4,rfl,rfl⟩
     ·omega
     have hobj:=hR.obj id _ hob
     cases hobj with
     |arr _ _ _ _ hk hes hbl=>
     rcases hbl with⟨g0,_⟩|⟨B',cap,cur,g1,g2,g3,g4,g5,g6⟩
     ·rw[g0]at h3;cases h3
     have hφ:=h3
     obtain⟨e1,e2⟩:=Prod.mk.inj (Option.some.inj (g1.symm.trans h3))
     subst e1 e2
     have hel:((es.drop off).take l).length=l:=by simp;omega
     have key:=RD.list (N:=j7 H φ m N) (w:=w) false ((es.drop off).take l) ⟨B',off* k,none⟩ (cap-off) k (fun i j=>cur.getD ((off+i)* k+j) undef) (by rw[hel];omega)
      (fun e he=>hes e (List.mem_of_mem_drop (List.mem_of_mem_take he))) (fun i j hi hj=>by
       rw[hel]at hi
       have hlt:(off+i)* k+j<es.length* k:=eI hj (by omega)
       have hlt2:(off+i)* k+j<cur.size:=by have:=Nat.mul_le_mul_right k g3;omega
       have hpos:off* k+(i* k+j)=(off+i)* k+j:=by rw[Nat.add_mul];omega
       rw[add_plain,hpos]
       refine⟨.inr ⟨id,B',cap,e,k,v',es,by omega,hob,hφ,rfl,rfl,hlt⟩,?_⟩
       simp[World.cell?,g2,Array.getD,hlt2]) (fun i hi j hj=>by
       rw[hel]at hi
       simp only[List.getElem_take,List.getElem_drop]at hj⊢
       obtain⟨u,hu,hd⟩:=g6 (off+i) (by omega) j hj
       have hget:cur.getD ((off+i)* k+j) undef=u:=by
        rw[Array.getD_eq_getD_getElem?,hu];rfl
       simp only[hget]
       exact hd.frozen)
     rw[hel]at key
     exact .d key
    ·exact .top _
   ·exact .top _
 |agg=>exact .top _
 |bz=>exact .top _
 |fn f cs=>
  cases cs with
  |nil=>exact h.take (.fn f [] fun i hi=>by simp at hi)
  |cons _ _=>exact .top _
 |top=>exact .top _
 |d=>exact h.take (.d _)
 |eS=>exact h.take .eS
 |dt=>exact h.take (.dt _)
theorem CY{H:aa}{φ:bI}{N:Addr→Prop}{w:World}(hR:Rel H φ N w)(m:Nat){x:AV}{v:Value}(h:RA H φ N w x v):RA (H.take m) φ (j7 H φ m N) w (K4 H m x) v:=by
 cases x with
 |agg cs=>
  cases h with
  |agg _ vs hl hh=>exact .agg _ vs (by simpa using hl) fun i h1 h2=>by simpa using wh hR m (hh i (by simpa using h1) h2)
 |fn f cs=>
  cases h with
  |fn _ _ vs hl hh=>exact .fn f _ vs (by simpa using hl) fun i h1 h2=>by simpa using wh hR m (hh i (by simpa using h1) h2)
 |_=>exact wh hR m h
theorem Hv{H:aa}{φ:bI}{N:Addr→Prop}{w:World}(hR:Rel H φ N w)(m:Nat){x:AV}{v:Value}(h:RA H φ N w x v):RA (H.take m) φ (j7 H φ m N) w (sx H m x) v:=by
 cases x with
 |bz cs=>
  cases h with
  |bz _ vs hl hh=>exact .bz _ vs (by simpa using hl) fun i h1 h2=>by simpa using CY hR m (hh i (by simpa using h1) h2)
 |_=>exact CY hR m h
theorem Rel.take{H:aa}{φ:bI}{N:Addr→Prop}{w:World}(hR:Rel H φ N w)(m:Nat)(hb:∀i o,i<m→H[i]?=some o→(∀e k ver n cs,o= .box e k ver n cs→∀c∈cs,lK m c)∧(∀kk es,o= .mp kk es→∀e∈es,lK m e.2)∧(∀m' since seen,o= .iter m' since seen→m'<m)∧∀r s,o= .lp r s→∀t,lK m (s t)):
  Rel (H.take m) φ (j7 H φ m N) w where
 obj id o h:=by
  have hlt:id<m:=by have:=az h;simp at this;omega
  rw[jz hlt]at h
  obtain⟨hb1,hb2,hb3,hb4⟩:=hb id o hlt h
  cases hR.obj id o h with
  |arr e k ver es hk hes hh=>
   refine .arr e k ver es hk hes ?_
   rcases hh with hh|⟨B,cap,cur,g1,g2,g3,g4,g5,g6⟩
   ·exact .inl hh
   ·refine .inr ⟨B,cap,cur,g1,g2,g3,g4,g5,fun i hi j hj=>?_⟩
    obtain⟨c,hc,hd⟩:=g6 i hi j hj
    exact⟨c,hc,hd.frozen⟩
  |box e k ver n cs B cap cur hk hn hp hbk hc hm hs hh=>
   refine .box e k ver n cs B cap cur hk hn hp hbk hc hm hs fun j hj=>?_
   obtain⟨c,hc,hd⟩:=hh j hj
   exact⟨c,hc,hd.take (hb1 e k ver n cs rfl _ (List.getElem_mem hj))⟩
  |mp kk es B cap ents clock hp hbk hs hck hbn hh=>exact .mp kk es B cap ents clock hp hbk hs hck hbn fun j hj hj2=>⟨(hh j hj hj2).1,(hh j hj hj2).2.take (hb2 kk es rfl _ (List.getElem_mem hj))⟩
  |dead ver hp=>exact .dead ver hp
  |iter m' since seen B cap bm cm kk es hp hbk hm hpm=>exact .iter m' since seen B cap bm cm kk es hp hbk (by rw[jz (hb3 m' since seen rfl)];exact hm) hpm
  |lp r s B cap hp hbk hh=>exact .lp r s B cap hp hbk fun t=>(hh t).take (hb4 r s rfl t)
 inj i j B c c' hi hj h1 h2:=hR.inj i j B c c' (by simp at hi;omega) (by simp at hj;omega) h1 h2
 live a ha:=by
  rcases ha with ha|⟨id,B,c,e,k,ver,es,hid,ho,hp,h1,h2,h3⟩
  ·exact hR.live a ha
  ·cases hR.obj id _ ho with
   |arr _ _ _ _ hk hes hh=>
   rcases hh with⟨g0,_⟩|⟨B',cap,cur,g1,g2,g3,g4,g5,g6⟩
   ·rw[g0]at hp;cases hp
   ·rw[g1]at hp;cases hp
    have hlt:a.off<cur.size:=by have:=Nat.mul_le_mul_right k g3;omega
    exact⟨cur[a.off],by simp[World.cell?,h1,g2,h2,hlt]⟩
 apart a id B c ha hid hp:=by
  simp at hid
  rcases ha with ha|⟨id',B',c',e,k,ver,es,hid',ho,hp',h1,h2,h3⟩
  ·exact hR.apart a id B c ha (by omega) hp
  ·intro he
   have:=hR.inj id id' B c c' (by omega) (az ho) hp (by rw[←he,h1];exact hp')
   omega
theorem aF.take{H:aa}{φ:bI}{N:Addr→Prop}{w:World}(h:aF H0 φ0 N0 w0 H φ N w)(m:Nat)(hm:H0.length≤m)(hl:m≤H.length):aF H0 φ0 N0 w0 (H.take m) φ (j7 H φ m N) w where
 len:=by simp;omega
 os:=h.os
 tape:=h.tape
 output:=h.output
 size:=h.size
 ev:=h.ev
 own id B c hid:=h.own id B c (by simp at hid;omega)
 mono a ha:= .inl (h.mono a ha)
 c8 id o ho:=by
  obtain⟨o',h1,h2⟩:=h.c8 id o ho
  exact⟨o',by rw[jz (by have:=az ho;omega)];exact h1,h2⟩
 qY a ha:=by
  rcases ha with ha|⟨id,B,c,_,_,_,_,_,ho,hp,h1,_⟩
  ·exact h.qY a ha
  ·rcases Nat.lt_or_ge B w0.heap.size with hl|hl
   ·obtain⟨id0,c0,h2,h3⟩:=h.own id B c (az ho) hp hl
    exact .inr (.inr ⟨id0,c0,h2,by rw[h1];exact h3⟩)
   ·exact .inr (.inl (by omega))
theorem ay.ok{s s':Nat→AV}{H H':aa}(hW:ay H0 s H s' H')(hR0:Rel H0 φ0 N0 w0):∀{φ:bI} {N:Addr→Prop} {a:Act} {w:World},Inv H0 φ0 N0 w0 n ds s H φ N a w→∃φ' N',Inv H0 φ0 N0 w0 n ds s' H' φ' N' a w:=by
 induction hW with
 |refl=>exact fun h=>⟨_,_,h⟩
 |zS s H m hm hl hb=>
  intro φ N a w hI
  refine⟨φ,j7 H φ m N,hI.rel.take m fun i o hi ho=>?_,fun t=>Hv hI.rel m (hI.tmps t),hI.since.take m hm hl,hI.size,hI.defers.mono fun D _ _ _ hn=>⟨rfl,fun id c hid=>hn id c (by simp at hid;omega)⟩⟩
  rcases hb i o hi ho with h0|h0
  ·have hob:=hR0.obj i o h0
   refine⟨?_,?_,?_,?_⟩
   ·rintro e k ver n cs rfl c hc
    cases hob with
    |box _ _ _ _ _ B cap cur hk hn hp hbk hc' hm' hs hh=>
    obtain⟨j,hj,rfl⟩:=List.mem_iff_getElem.1 hc
    obtain⟨u,_,hu⟩:=hh j hj
    exact hu.bel.mono hm
   ·rintro kk es rfl e he
    cases hob with
    |mp _ _ B cap ents clock hp hbk hs hck hbn hh=>
    obtain⟨j,hj,rfl⟩:=List.mem_iff_getElem.1 he
    exact(hh j hj (by omega)).2.bel.mono hm
   ·rintro m' since seen rfl
    cases hob with
    |iter _ _ _ B cap bm cm kk es hp hbk hmm hpm=>exact Nat.lt_of_lt_of_le (az hmm) hm
   ·rintro r s rfl t
    cases hob with
    |lp _ _ B cap hp hbk hh=>exact(hh t).bel.mono hm
  ·refine⟨?_,?_,?_,?_⟩
   ·rintro e k ver n cs rfl c hc
    simp only[aT.below,List.all_eq_true]at h0
    exact J9 (h0 c hc)
   ·rintro kk es rfl e he
    simp only[aT.below,List.all_eq_true]at h0
    exact J9 (h0 e he)
   ·rintro m' since seen rfl
    simpa[aT.below]using h0
   ·rintro r s rfl
    simp[aT.below]at h0
 |Gv s H m hm hl hb=>
  intro φ N a w hI
  refine⟨φ,j7 H φ m N,hI.rel.take m fun i o hi ho=>?_,fun t=>Hv hI.rel m (hI.tmps t),hI.since.take m hm hl,hI.size,hI.defers.mono fun D _ _ _ hn=>⟨rfl,fun id c hid=>hn id c (by simp at hid;omega)⟩⟩
  rcases hb i o hi ho with h0|h0
  ·have hob:=hR0.obj i o h0
   refine⟨?_,?_,?_,?_⟩
   ·rintro e k ver n cs rfl c hc
    cases hob with
    |box _ _ _ _ _ B cap cur hk hn hp hbk hc' hm' hs hh=>
    obtain⟨j,hj,rfl⟩:=List.mem_iff_getElem.1 hc
    obtain⟨u,_,hu⟩:=hh j hj
    exact hu.bel.mono hm
   ·rintro kk es rfl e he
    cases hob with
    |mp _ _ B cap ents clock hp hbk hs hck hbn hh=>
    obtain⟨j,hj,rfl⟩:=List.mem_iff_getElem.1 he
    exact(hh j hj (by omega)).2.bel.mono hm
   ·rintro m' since seen rfl
    cases hob with
    |iter _ _ _ B cap bm cm kk es hp hbk hmm hpm=>exact Nat.lt_of_lt_of_le (az hmm) hm
   ·rintro r s rfl t
    cases hob with
    |lp _ _ B cap hp hbk hh=>exact(hh t).bel.mono hm
  ·exact h0
 |G9 s H t id e k ver n ds ho hs=>
  intro φ N a w hI
  obtain⟨φ',N',hR',hS',hv⟩:=Rel.DG hI.rel ho
  refine⟨φ',N',hR',fun u=>?_,hI.since.trans hS',hI.size,hI.defers.since hS'⟩
  by_cases hu:u=t
  ·subst hu
   simp only[if_pos]
   have h1:=hI.tmps u
   rw[hs]at h1
   obtain⟨ad,h2,h3⟩:=hv _ h1
   rw[h2]
   exact xa h3
  ·simp only[if_neg hu]
   exact(hI.tmps u).since hI.rel hS'
 |more s H e k hk=>
  intro φ N a w hI
  have hS:=aF.qV hI.rel (.arr e k 0 [])
  exact⟨φ.put H.length none,N,hI.rel.qV e k hk,fun u=>(hI.tmps u).since hI.rel hS,hI.since.trans hS,hI.size,hI.defers.since hS⟩
 |imp s s' H h=>exact fun hI=>⟨_,_,hI.rel,fun u=>h _ _ _ _ _ (hI.tmps u),hI.since,hI.size,hI.defers⟩
 |Ia s H t e k ver hk h=>
  intro φ N a w hI
  have hS:=aF.qV hI.rel (.arr e k ver [])
  refine⟨φ.put H.length none,N,hI.rel.qV e k hk ver,fun u=>?_,hI.since.trans hS,hI.size,hI.defers.since hS⟩
  by_cases hu:u=t
  ·subst hu
   simp only[if_pos]
   obtain⟨A,hA⟩:=mC (hI.tmps u) h
   rw[hA]
   exact .sl _ _ _ _ _ _ _ (.arr e k ver []) (by simp) (Nat.le_refl _) fun _=>⟨rfl,by simp[aT.len],.inl ⟨bI.a9 _ _ _,rfl,rfl,rfl⟩⟩
  ·simp only[if_neg hu]
   exact(hI.tmps u).since hI.rel hS
 |mF s H id e0 k0 ver m cs j x e k hk ho hj hx=>
  intro φ N a w hI
  have hS:=aF.qV hI.rel (.arr e k 0 [])
  have hR:=hI.rel.qV e k hk
  have ho':(H++[aT.arr e k 0 []])[id]?=some (.box e0 k0 ver m cs):=by rw[List.getElem?_append_left (az ho)];exact ho
  have hob:=hR.obj id _ ho'
  cases hob with
  |box _ _ _ _ _ B cap cur g1 g2 g3 g4 g5 g6 g7 g8=>
  have hS2:aF (H++[aT.arr e k 0 []]) (φ.put H.length none) N w ((H++[aT.arr e k 0 []]).set id (.box e0 k0 ver m (cs.set j (.sl H.length 0 0 0)))) (φ.put H.length none) N w:=
   aF.set ho' g3 rfl rfl rfl (fun kk es he=>by cases he) rfl rfl rfl rfl fun _ _=>rfl
  have hset:(H++[aT.arr e k 0 []]).set id (.box e0 k0 ver m (cs.set j (.sl H.length 0 0 0)))=H.set id (.box e0 k0 ver m (cs.set j (.sl H.length 0 0 0)))++[.arr e k 0 []]:=List.set_append_left _ _ (az ho)
  rw[←hset]
  refine⟨φ.put H.length none,N,hR.set ho' g3 hS2 (fun _ _=>rfl) ?_,fun u=>((hI.tmps u).since hI.rel hS).since hR hS2,(hI.since.trans hS).trans hS2,hI.size,(hI.defers.since hS).since hS2⟩
  refine .box e0 k0 ver m _ B cap cur g1 (by simpa using g2) g3 g4 g5 g6 g7 fun i hi=>?_
  simp only[List.length_set]at hi
  obtain⟨c,hc,hd⟩:=g8 i hi
  refine⟨c,hc,?_⟩
  by_cases he:i=j
  ·subst he
   simp only[List.getElem_set_self]
   rw[List.getElem?_eq_getElem (by simpa using hi)]at hj
   cases hj
   obtain⟨A,hA⟩:=mC hd hx
   rw[hA]
   refine .sl _ _ _ _ _ _ _ (.arr e k 0 []) ?_ (Nat.le_refl _) fun _=>⟨rfl,by simp[aT.len],.inl ⟨bI.a9 _ _ _,rfl,rfl,rfl⟩⟩
   rw[List.getElem?_set_ne (by have:=az ho;omega)]
   simp
  ·rw[List.getElem_set_ne (Ne.symm he)]
   exact hd.since hR hS2
 |trans _ _ ih1 ih2=>
  intro φ N a w hI
  obtain⟨φ1,N1,h1⟩:=ih1 hI
  exact ih2 h1
theorem Rel.LF{H:aa}{φ:bI}{N:Addr→Prop}{w:World}(hR:Rel H φ N w):mT H.length H:=by
 intro i o ho
 have hob:=hR.obj i o ho
 refine⟨?_,?_,?_,?_⟩
 ·rintro e k ver n cs rfl c hc
  cases hob with
  |box _ _ _ _ _ B cap cur hk hn hp hbk hc' hm' hs hh=>
  obtain⟨j,hj,rfl⟩:=List.mem_iff_getElem.1 hc
  obtain⟨u,_,hu⟩:=hh j hj
  exact hu.bel
 ·rintro kk es rfl e he
  cases hob with
  |mp _ _ B cap ents clock hp hbk hs hck hbn hh=>
  obtain⟨j,hj,rfl⟩:=List.mem_iff_getElem.1 he
  exact(hh j hj (by omega)).2.bel
 ·rintro m' since seen rfl
  cases hob with
  |iter _ _ _ B cap bm cm kk es hp hbk hmm hpm=>exact az hmm
 ·rintro r s rfl t
  cases hob with
  |lp _ _ B cap hp hbk hh=>exact(hh t).bel
theorem RA.pre{H T:aa}{φ:bI}{N:Addr→Prop}{w:World}{x:AV}{v:Value}(h:RA (H++T) φ N w x v)(hb:lK H.length x):RA H φ N w x v:=by
 have g:∀{id:Nat} {o:aT},id<H.length→(H++T)[id]?=some o→H[id]?=some o:=fun hl h=>by rwa[List.getElem?_append_left hl]at h
 induction h with
 |top=>exact .top _
 |d hd=>exact .d hd
 |eS=>exact .eS _
 |ptr id ver i j A o ho hv hp=>cases hb with|ptr _ _ _ _ h=>exact .ptr _ _ _ _ _ o (g h ho) hv hp
 |dt cs ad c hc hd=>exact .dt cs ad c hc hd
 |sl id ver off len A l m' o ho hv hp=>cases hb with|sl _ _ _ _ h=>exact .sl _ _ _ _ _ _ _ o (g h ho) hv hp
 |agg cs vs hl _ ih=>cases hb with|agg _ hb=>exact .agg cs vs hl fun i h1 h2=>ih i h1 h2 (hb i h1)
 |bz cs vs hl _ ih=>cases hb with|bz _ hb=>exact .bz cs vs hl fun i h1 h2=>ih i h1 h2 (hb i h1)
 |fn f cs vs hl _ ih=>cases hb with|fn _ _ hb=>exact .fn f cs vs hl fun i h1 h2=>ih i h1 h2 (hb i h1)
 |mp id B c kk es ho hp=>cases hb with|mp _ h=>exact .mp id B c kk es (g h ho) hp
 |k8 id B o ho hp=>cases hb with|k8 _ h=>exact .k8 id B o (g h ho) hp
theorem Rel.pre{H T:aa}{φ:bI}{N:Addr→Prop}{w:World}(hR:Rel (H++T) φ N w)(hb:mT H.length H):Rel H φ N w where
 obj id o h:=by
  have h':(H++T)[id]?=some o:=by rw[List.getElem?_append_left (az h)];exact h
  obtain⟨hb1,hb2,hb3,hb4⟩:=hb id o h
  cases hR.obj id o h' with
  |arr e k ver es hk hes hh=>exact .arr e k ver es hk hes hh
  |box e k ver n cs B cap cur hk hn hp hbk hc hm hs hh=>
   refine .box e k ver n cs B cap cur hk hn hp hbk hc hm hs fun j hj=>?_
   obtain⟨c,hc,hd⟩:=hh j hj
   exact⟨c,hc,hd.pre (hb1 e k ver n cs rfl _ (List.getElem_mem hj))⟩
  |mp kk es B cap ents clock hp hbk hs hck hbn hh=>exact .mp kk es B cap ents clock hp hbk hs hck hbn fun j hj hj2=>⟨(hh j hj hj2).1,(hh j hj hj2).2.pre (hb2 kk es rfl _ (List.getElem_mem hj))⟩
  |dead ver hp=>exact .dead ver hp
  |iter m' since seen B cap bm cm kk es hp hbk hm hpm=>exact .iter m' since seen B cap bm cm kk es hp hbk (by rwa[List.getElem?_append_left (hb3 m' since seen rfl)]at hm) hpm
  |lp r s B cap hp hbk hh=>exact .lp r s B cap hp hbk fun t=>(hh t).pre (hb4 r s rfl t)
 inj i j B c c' hi hj h1 h2:=hR.inj i j B c c' (by simp;omega) (by simp;omega) h1 h2
 live:=hR.live
 apart a id B c ha hid hp:=hR.apart a id B c ha (by simp;omega) hp
theorem RA.ext{H T:aa}{φ φ':bI}{N:Addr→Prop}{w:World}{x:AV}{v:Value}(h:RA H φ N w x v)(hp':∀i,i<H.length→φ' i=φ i):RA (H++T) φ' N w x v:=by
 have g:∀{id:Nat} {o:aT},H[id]?=some o→(H++T)[id]?=some o:=fun h=>by rw[List.getElem?_append_left (az h)];exact h
 induction h with
 |top=>exact .top _
 |d hd=>exact .d hd
 |eS=>exact .eS _
 |ptr id ver i j A o ho hv hp=>exact .ptr _ _ _ _ _ o (g ho) hv (by rw[hp' _ (az ho)];exact hp)
 |dt cs ad c hc hd=>exact .dt cs ad c hc hd
 |sl id ver off len A l m' o ho hv hp=>exact .sl _ _ _ _ _ _ _ o (g ho) hv (by rw[hp' _ (az ho)];exact hp)
 |agg cs vs hl _ ih=>exact .agg cs vs hl ih
 |bz cs vs hl _ ih=>exact .bz cs vs hl ih
 |fn f cs vs hl _ ih=>exact .fn f cs vs hl ih
 |mp id B c kk es ho hp=>exact .mp id B c kk es (g ho) (by rw[hp' _ (az ho)];exact hp)
 |k8 id B o ho hp=>exact .k8 id B o (g ho) (by rw[hp' _ (az ho)];exact hp)
theorem lG.ext{H T:aa}{φ φ':bI}{N:Addr→Prop}{w:World}{id:Nat}{o:aT}(h:lG H φ N w id o)(hid:id<H.length)(hp':∀i,i<H.length→φ' i=φ i):lG (H++T) φ' N w id o:=by
 have e:=hp' id hid
 cases h with
 |arr e1 k ver es hk hes hh=>exact .arr e1 k ver es hk hes (by rw[e];exact hh)
 |box e1 k ver n cs B cap cur hk hn hp hbk hc hm hs hh=>
  refine .box e1 k ver n cs B cap cur hk hn (e.trans hp) hbk hc hm hs fun j hj=>?_
  obtain⟨c,hc,hd⟩:=hh j hj
  exact⟨c,hc,hd.ext hp'⟩
 |mp kk es B cap ents clock hp hbk hs hck hbn hh=>exact .mp kk es B cap ents clock (e.trans hp) hbk hs hck hbn fun j hj hj2=>⟨(hh j hj hj2).1,(hh j hj hj2).2.ext hp'⟩
 |dead ver hp=>exact .dead ver (e.trans hp)
 |iter m' since seen B cap bm cm kk es hp hbk hm hpm=>exact .iter m' since seen B cap bm cm kk es (e.trans hp) hbk (by rw[List.getElem?_append_left (az hm)];exact hm) ((hp' _ (az hm)).trans hpm)
 |lp r s B cap hp hbk hh=>exact .lp r s B cap (e.trans hp) hbk fun t=>(hh t).ext hp'
theorem RA.off{H:aa}{φ:bI}{N:Addr→Prop}{w w':World}{x:AV}{v:Value}(h:RA H φ N w x v)(hc:∀a v,N a→w.cell? a=some v→w'.cell? a=some v):RA H φ N w' x v:=by
 induction h with
 |top=>exact .top _
 |d hd=>exact .d (hd.mono (fun _ h=>h) hc)
 |eS=>exact .eS _
 |ptr id ver i j A o ho hv hp=>exact .ptr _ _ _ _ _ o ho hv hp
 |dt cs ad c hn hd=>exact .dt cs ad c (fun t ht=>⟨(hn t ht).1,hc _ _ (hn t ht).1 (hn t ht).2⟩) fun t ht=>(hd t ht).mono (fun _ h=>h) hc
 |sl id ver off len A l m' o ho hv hp=>exact .sl _ _ _ _ _ _ _ o ho hv hp
 |agg cs vs hl _ ih=>exact .agg cs vs hl ih
 |bz cs vs hl _ ih=>exact .bz cs vs hl ih
 |fn f cs vs hl _ ih=>exact .fn f cs vs hl ih
 |mp id B c kk es ho hp=>exact .mp id B c kk es ho hp
 |k8 id B o ho hp=>exact .k8 id B o ho hp
theorem Rel.off{H:aa}{φ:bI}{N:Addr→Prop}{w w':World}(hR:Rel H φ N w)(hb:∀id B c,id<H.length→φ id=some (B,c)→w'.heap[B]?=w.heap[B]?)(hc:∀a v,N a→w.cell? a=some v→w'.cell? a=some v):Rel H φ N w' where
 obj id o h:=by
  have hl:=az h
  cases hR.obj id o h with
  |arr e k ver es hk hes hh=>
   refine .arr e k ver es hk hes ?_
   rcases hh with hh|⟨B,cap,cur,g1,g2,g3,g4,g5,g6⟩
   ·exact .inl hh
   ·refine .inr ⟨B,cap,cur,g1,(hb id B cap hl g1).trans g2,g3,g4,g5,fun i hi j hj=>?_⟩
    obtain⟨c,h1,h2⟩:=g6 i hi j hj
    exact⟨c,h1,h2.mono (fun _ h=>h) hc⟩
  |box e1 k ver n cs B cap cur hk hn hp hbk hc' hm hs hh=>
   refine .box e1 k ver n cs B cap cur hk hn hp ((hb id B cap hl hp).trans hbk) hc' hm hs fun j hj=>?_
   obtain⟨c,h1,hd⟩:=hh j hj
   exact⟨c,h1,hd.off hc⟩
  |mp kk es B cap ents clock hp hbk hs hck hbn hh=>exact .mp kk es B cap ents clock hp ((hb id B cap hl hp).trans hbk) hs hck hbn fun j hj hj2=>⟨(hh j hj hj2).1,(hh j hj hj2).2.off hc⟩
  |dead ver hp=>exact .dead ver hp
  |iter m' since seen B cap bm cm kk es hp hbk hm hpm=>exact .iter m' since seen B cap bm cm kk es hp ((hb id B cap hl hp).trans hbk) hm hpm
  |lp r s B cap hp hbk hh=>exact .lp r s B cap hp ((hb id B cap hl hp).trans hbk) fun t=>(hh t).off hc
 inj:=hR.inj
 live a ha:=by obtain⟨v,hv⟩:=hR.live a ha;exact⟨v,hc a v ha hv⟩
 apart:=hR.apart
theorem Rel.put{H:aa}{φ:bI}{N:Addr→Prop}{w:World}(hR:Rel H φ N w){X:Nat}{o o':Obj}(hX:w.heap[X]?=some o)(ho:∀cs e fr,o≠ .cells cs e fr)(hn:∀id c,id<H.length→φ id≠some (X,c)):
  Rel H φ N (w.putObj X o')∧∀x v,RA H φ N w x v→RA H φ N (w.putObj X o') x v:=by
 have hc:∀a v,N a→w.cell? a=some v→(w.putObj X o').cell? a=some v:=by
  intro a v ha hv
  have hne:a.block≠X:=by
   intro e
   subst e
   unfold World.cell? at hv
   rw[hX]at hv
   cases o<;>first|cases hv|exact absurd rfl (ho _ _ _)
  rw[World.cell?_of_block (World.putObj_heap_other hne)]
  exact hv
 exact⟨hR.off (fun id B c hid hp=>World.putObj_heap_other fun e=>hn id c hid (by rw[←e];exact hp)) hc,fun x v h=>h.off hc⟩
structure iL (X:Nat) (H0:aa) (φ0:bI) (N0:Addr→Prop) (w0:World) (H:aa) (φ:bI) (N:Addr→Prop) (w:World):Prop where
 len:H0.length≤H.length
 os:w.os=w0.os
 tape:w.tape=w0.tape
 output:w.output=w0.output
 size:w0.heap.size≤w.heap.size
 ev:∀k,k<w0.heap.size→k≠X→(∀id c,id<H0.length→φ0 id≠some (k,c))→w.heap[k]?=w0.heap[k]?
 own:∀id B c,id<H.length→φ id=some (B,c)→B<w0.heap.size→∃id0 c0,id0<H0.length∧φ0 id0=some (B,c0)
 mono:∀a,N0 a→N a
 c8:∀id o,H0[id]?=some o→∃o',H[id]?=some o'∧o'.k=o.k∧o.ver≤o'.ver∧(o.ver=o'.ver→φ id=φ0 id∧o.len≤o'.len)∧∀kk es,o= .mp kk es→φ id=φ0 id∧∃es',o'= .mp kk es'
 qY:∀a,N a→N0 a∨w0.heap.size≤a.block∨∃id c,id<H0.length∧φ0 id=some (a.block,c)
theorem aF.x{H H':aa}{φ φ':bI}{N N':Addr→Prop}{w w':World}(h:aF H φ N w H' φ' N' w')(X:Nat):iL X H φ N w H' φ' N' w':=
 ⟨h.len,h.os,h.tape,h.output,h.size,fun k hk _=>h.ev k hk,h.own,h.mono,h.c8,h.qY⟩
theorem iL.trans{X:Nat}{H0 H1 H2:aa}{φ0 φ1 φ2:bI}{N0 N1 N2:Addr→Prop}{w0 w1 w2:World}(h:iL X H0 φ0 N0 w0 H1 φ1 N1 w1)(g:iL X H1 φ1 N1 w1 H2 φ2 N2 w2):iL X H0 φ0 N0 w0 H2 φ2 N2 w2 where
 len:=Nat.le_trans h.len g.len
 os:=g.os.trans h.os
 tape:=g.tape.trans h.tape
 output:=g.output.trans h.output
 size:=Nat.le_trans h.size g.size
 ev k hk hx hn:=by
  rw[g.ev k (Nat.lt_of_lt_of_le hk h.size) hx ?_,h.ev k hk hx hn]
  intro id c hid hc
  obtain⟨id0,c0,hi0,h0⟩:=h.own id k c hid hc hk
  exact hn id0 c0 hi0 h0
 own id _ c hid hc hB:=by
  obtain⟨id1,c1,hi1,h1⟩:=g.own id _ c hid hc (Nat.lt_of_lt_of_le hB h.size)
  exact h.own id1 _ c1 hi1 h1 hB
 mono a ha:=g.mono a (h.mono a ha)
 c8 id o ho:=by
  obtain⟨o1,ho1,hk1,hv1,hq1,hm1⟩:=h.c8 id o ho
  obtain⟨o2,ho2,hk2,hv2,hq2,hm2⟩:=g.c8 id o1 ho1
  refine⟨o2,ho2,hk2.trans hk1,Nat.le_trans hv1 hv2,fun he=>?_,fun kk es he=>?_⟩
  ·obtain⟨p1,l1⟩:=hq1 (by omega)
   obtain⟨p2,l2⟩:=hq2 (by omega)
   exact⟨p2.trans p1,Nat.le_trans l1 l2⟩
  ·obtain⟨p1,es1,e1⟩:=hm1 kk es he
   obtain⟨p2,es2,e2⟩:=hm2 kk es1 e1
   exact⟨p2.trans p1,es2,e2⟩
 qY a ha:=by
  rcases g.qY a ha with h1|h1|⟨id,c,hid,hp⟩
  ·exact h.qY a h1
  ·exact .inr (.inl (Nat.le_trans h.size h1))
  ·rcases Nat.lt_or_ge a.block w0.heap.size with hl|hl
   ·obtain⟨id0,c0,h2,h3⟩:=h.own id _ c hid hp hl
    exact .inr (.inr ⟨id0,c0,h2,h3⟩)
   ·exact .inr (.inl hl)
theorem iL.put{X:Nat}{H H':aa}{φ φ':bI}{N N':Addr→Prop}{w w':World}(h:iL X H φ N w H' φ' N' w')(o:Obj):iL X H φ N w H' φ' N' (w'.putObj X o)where
 len:=h.len
 os:=h.os
 tape:=h.tape
 output:=h.output
 size:=by rw[World.putObj_size];exact h.size
 ev k hk hx hn:=(World.putObj_heap_other hx).trans (h.ev k hk hx hn)
 own:=h.own
 mono:=h.mono
 c8:=h.c8
 qY:=h.qY
theorem aF.both{H H':aa}{φ φ':bI}{N N':Addr→Prop}{w w':World}{X:Nat}(h:aF H φ N w H' φ' N' w')(hX:X<w.heap.size)(o:Obj):aF H φ N (w.putObj X o) H' φ' N' (w'.putObj X o)where
 len:=h.len
 os:=h.os
 tape:=h.tape
 output:=h.output
 size:=by simp only[World.putObj_size];exact h.size
 ev k hk hn:=by
  rw[World.putObj_size]at hk
  by_cases e:k=X
  ·subst e
   rw[World.putObj_heap_same hX,World.putObj_heap_same (Nat.lt_of_lt_of_le hX h.size)]
  ·rw[World.putObj_heap_other e,World.putObj_heap_other e]
   exact h.ev k hk hn
 own id B c hid hp hB:=h.own id B c hid hp (by rw[World.putObj_size]at hB;exact hB)
 mono:=h.mono
 c8:=h.c8
 qY a ha:=by rw[World.putObj_size];exact h.qY a ha
theorem aF.Of{H H':aa}{φ φ':bI}{N N':Addr→Prop}{w w':World}{X:Nat}{o:Obj}(h:aF H φ N (w.putObj X o) H' φ' N' w'):iL X H φ N w H' φ' N' w' where
 len:=h.len
 os:=h.os
 tape:=h.tape
 output:=h.output
 size:=by have:=h.size;rwa[World.putObj_size]at this
 ev k hk hx hn:=(h.ev k (by rw[World.putObj_size];exact hk) hn).trans (World.putObj_heap_other hx)
 own id B c hid hp hB:=h.own id B c hid hp (by rw[World.putObj_size];exact hB)
 mono:=h.mono
 c8:=h.c8
 qY a ha:=by have:=h.qY a ha;rwa[World.putObj_size]at this
theorem iL.since{X:Nat}{H H':aa}{φ φ':bI}{N N':Addr→Prop}{w w':World}(h:iL X H φ N w H' φ' N' w')(hX:w.heap.size≤X):aF H φ N w H' φ' N' w':=
 ⟨h.len,h.os,h.tape,h.output,h.size,fun k hk hn=>h.ev k hk (by omega) hn,h.own,h.mono,h.c8,h.qY⟩
theorem aF.pre{H0 H T:aa}{φ0 φ:bI}{N0 N:Addr→Prop}{w0 w:World}(h:aF H0 φ0 N0 w0 (H++T) φ N w)(hl:H0.length≤H.length):aF H0 φ0 N0 w0 H φ N w where
 len:=hl
 os:=h.os
 tape:=h.tape
 output:=h.output
 size:=h.size
 ev:=h.ev
 own id B c hid:=h.own id B c (by simp;omega)
 mono:=h.mono
 c8 id o ho:=by
  obtain⟨o',h1,h2⟩:=h.c8 id o ho
  exact⟨o',by rwa[List.getElem?_append_left (by have:=az ho;omega)]at h1,h2⟩
 qY:=h.qY
theorem Gs{Hk H3 T:aa}{φ φ3:bI}{N N3:Addr→Prop}{w w4:World}{r r4:Loop}{s:Nat→AV}{B c:Nat}(hR:Rel (Hk++ .lp r s::T) φ N w)(hB:φ Hk.length=some (B,c))(hX:iL B Hk φ N w H3 φ3 N3 w4)
  (hR3:Rel H3 φ3 N3 w4) (hl:H3.length=Hk.length) (hb:w4.heap[B]?=some (.loop r4)) (ht:r4.tmps=r.tmps):
  ∃φ',Rel (H3++ .lp r4 s::T) φ' N3 w4∧aF (Hk++ .lp r s::T) φ N w (H3++ .lp r4 s::T) φ' N3 w4:=by
 let φ':bI:=fun i=>if i<Hk.length then φ3 i else φ i
 have e1:∀i,i<Hk.length→φ' i=φ3 i:=fun i hi=>if_pos hi
 have e2:∀i,Hk.length≤i→φ' i=φ i:=fun i hi=>if_neg (by omega)
 have hll:(H3++aT.lp r4 s::T).length=(Hk++aT.lp r s::T).length:=by simp[hl]
 have hlp:(Hk++aT.lp r s::T)[Hk.length]?=some (.lp r s):=by simp
 have hml:Hk.length<(Hk++aT.lp r s::T).length:=by simp
 have getT:∀i o,Hk.length<i→(Hk++aT.lp r s::T)[i]?=some o→(H3++aT.lp r4 s::T)[i]?=some o:=by
  intro i o hi h
  rw[List.getElem?_append_right (by omega)]at h⊢
  rw[hl]
  rw[show i-Hk.length=(i-Hk.length-1)+1 from by omega]at h⊢
  exact h
 have getT':∀i o,Hk.length<i→(H3++aT.lp r4 s::T)[i]?=some o→(Hk++aT.lp r s::T)[i]?=some o:=by
  intro i o hi h
  rw[List.getElem?_append_right (by omega)]at h⊢
  rw[hl]at h
  rw[show i-Hk.length=(i-Hk.length-1)+1 from by omega]at h⊢
  exact h
 have hS:aF (Hk++ .lp r s::T) φ N w (H3++ .lp r4 s::T) φ' N3 w4:=by
  refine⟨by rw[hll];exact Nat.le_refl _,hX.os,hX.tape,hX.output,hX.size,fun k hk hn=>?_,fun id B' c' hid hp hlt=>?_,hX.mono,fun id o ho=>?_,fun a ha=>?_⟩
  ·exact hX.ev k hk (fun e=>hn _ c hml (by rw[e];exact hB)) fun id c' hid=>hn id c' (by simp;omega)
  ·rcases Nat.lt_or_ge id Hk.length with hi|hi
   ·rw[e1 id hi]at hp
    obtain⟨id0,c0,h1,h2⟩:=hX.own id B' c' (by omega) hp hlt
    exact⟨id0,c0,by simp;omega,h2⟩
   ·rw[e2 id hi]at hp
    exact⟨id,c',by omega,hp⟩
  ·rcases Nat.lt_trichotomy id Hk.length with hi|hi|hi
   ·rw[List.getElem?_append_left hi]at ho
    obtain⟨o',h1,h2⟩:=hX.c8 id o ho
    exact⟨o',by rw[List.getElem?_append_left (by omega)];exact h1,by rw[e1 id hi];exact h2⟩
   ·subst hi
    rw[hlp]at ho;cases ho
    exact⟨.lp r4 s,by rw[←hl];simp,rfl,Nat.le_refl _,fun _=>⟨e2 _ (Nat.le_refl _),Nat.le_refl _⟩,fun kk es he=>by cases he⟩
   ·exact⟨o,getT id o hi ho,rfl,Nat.le_refl _,fun _=>⟨e2 _ (by omega),Nat.le_refl _⟩,fun kk es he=>⟨e2 _ (by omega),es,he⟩⟩
  ·rcases hX.qY a ha with h1|h1|⟨id,c',h1,h2⟩
   ·exact .inl h1
   ·exact .inr (.inl h1)
   ·exact .inr (.inr ⟨id,c',by simp;omega,h2⟩)
 have own3:∀i B' c',i<Hk.length→φ3 i=some (B',c')→∀j c'',Hk.length≤j→j<(Hk++aT.lp r s::T).length→φ j≠some (B',c''):=by
  intro i B' c' hi hp j c'' hj hj2 hpj
  obtain⟨id0,c0,h1,h2⟩:=hX.own i B' c' (by omega) hp (hR.dI hj2 hpj)
  have:=hR.inj id0 j B' c0 c'' (by simp;omega) hj2 h2 hpj
  omega
 refine⟨φ',⟨fun id o ho=>?_,fun i j B' c1 c2 hi hj h1 h2=>?_,hR3.live,fun a id B' c' ha hid hp=>?_⟩,hS⟩
 ·rcases Nat.lt_trichotomy id Hk.length with hi|hi|hi
  ·rw[List.getElem?_append_left (by omega)]at ho
   exact(hR3.obj id o ho).ext (by omega) fun i hi=>e1 i (by omega)
  ·subst hi
   have ho':(H3++aT.lp r4 s::T)[Hk.length]?=some (.lp r4 s):=by rw[←hl];simp
   rw[ho']at ho;cases ho
   cases hR.obj _ _ hlp with
   |lp _ _ B' c' hp' hb' hh=>
   rw[hB]at hp';cases hp'
   exact .lp r4 s B c ((e2 _ (Nat.le_refl _)).trans hB) hb fun t=>by rw[ht];exact(hh t).since hR hS
  ·have h0:=getT' id o hi ho
   refine(hR.obj id o h0).ev hR hS (e2 id (by omega)) fun B' c' hp=>?_
   refine hX.ev B' (hR.dI (az h0) hp) (fun e=>?_) fun id0 c0 h1 h2=>?_
   ·subst e
    have:=hR.inj id Hk.length B' c' c (az h0) hml hp hB
    omega
   ·have:=hR.inj id id0 B' c' c0 (az h0) (by simp;omega) hp h2
    omega
 ·rw[hll]at hi hj
  rcases Nat.lt_or_ge i Hk.length with a|a<;>rcases Nat.lt_or_ge j Hk.length with b|b
  ·rw[e1 i a]at h1;rw[e1 j b]at h2
   exact hR3.inj i j B' c1 c2 (by omega) (by omega) h1 h2
  ·rw[e1 i a]at h1;rw[e2 j b]at h2
   exact absurd h2 (own3 i B' c1 a h1 j c2 b hj)
  ·rw[e2 i a]at h1;rw[e1 j b]at h2
   exact absurd h1 (own3 j B' c2 b h2 i c1 a hi)
  ·rw[e2 i a]at h1;rw[e2 j b]at h2
   exact hR.inj i j B' c1 c2 hi hj h1 h2
 ·rw[hll]at hid
  rcases Nat.lt_or_ge id Hk.length with hi|hi
  ·rw[e1 id hi]at hp
   exact hR3.apart a id B' c' ha (by omega) hp
  ·rw[e2 id hi]at hp
   intro e
   rcases hX.qY a ha with h1|h1|⟨id0,c0,h1,h2⟩
   ·exact hR.apart a id B' c' h1 hid hp e
   ·have:=hR.dI hid hp
    omega
   ·rw[e]at h2
    have:=hR.inj id id0 B' c' c0 hid (by simp;omega) hp h2
    omega
theorem qK{P:Program}{F:Fence}{c:Code}{Q:Exit→Act→World→Prop}:∀(m n:Nat),m≤n→∀a w,Code.roundsIn F 0 P c Q m a w→Code.roundsIn F 0 P c Q n a w
 |0,_,_,_,_,h=>h.elim
 |m+1,0,hle,_,_,_=>by omega
 |m+1,n+1,hle,a,w,h=>wpIn_mono h fun e a w hq=>by
  cases e with
  |normal=>exact qK m n (by omega) a w hq
  |_=>exact hq
theorem Af{P:Program}{F:Fence}{c:Code}{Q:Exit→Act→World→Prop}(J:Nat→Act→World→Prop){n:Nat}{a:Act}{w:World}
  (round:∀n a w,J n a w→c.wpIn F 0 P (Exit.then (fun a' w'=>∃m,m<n∧J m a' w') Q) a w) (h0:J n a w):(Code.loop c).wpIn F 0 P Q a w:=by
 refine wpIn_loop_rounds (n+1) ?_
 induction n using Nat.strongRecOn generalizing a w with
 |_ n ih=>
  rw[roundsIn_succ]
  refine wpIn_mono (round n a w h0) fun e a' w' hq=>?_
  cases e with
  |normal=>
   obtain⟨m,hm,hJ⟩:=hq
   exact qK (m+1) n (by omega) _ _ (ih m hm hJ)
  |_=>exact hq
theorem Bk{P:Program}{F:Fence}{c:Code}{Q:Exit→Act→World→Prop}{a:Act}{w:World}(h:c.wpIn F 0 P (Exit.noGoto Q) a w):(Code.scope c).wpIn F 0 P Q a w:=by
 intro b k cs hro hb hr
 have s1:step P (lone (b.atR a (.code (.scope c)::k)) cs w)= .next (lone (b.atR a (.code c:: .inScope c::k)) cs w):=step_lone_go (by simp[stepG,stepG.exec,Frame.atR])
 have s2:∀(a:Act) (w:World),step P (lone (b.atR a (.inScope c::k)) cs w)= .next (lone (b.atR a k) cs w):=fun a w=>step_lone_go (by simp[stepG,stepG.exec,Frame.atR])
 have f1:(lone (b.atR a (.code (.scope c)::k)) cs w).fenced P F:=fenced_calm (fr:=b.atR a (.code (.scope c)::k)) hb hr rfl
 obtain⟨e,a₁,w₁,hq,harr⟩:=h b (.inScope c::k) cs hro hb hr
 cases e with
 |normal=>exact⟨.normal,a₁,w₁,hq,.head f1 s1 (StepsIn.trans harr (.one (fenced_calm (fr:=b.atR a₁ (.inScope c::k)) hb hr rfl) (s2 _ _)))⟩
 |exit id=>exact⟨.exit id,a₁,w₁,hq,.of_steps (.one f1 s1) ⟨fun k' hk=>harr.1 k' (by simp[exitTo,hk]),fun hr' hk=>harr.2 hr' (by simp[exitTo,hk])⟩⟩
 |goto l=>exact hq.elim
 |ret=>exact⟨.ret,a₁,w₁,hq,.of_steps (.one f1 s1) (show ArrivesIn _ P _ b k cs (.ret) a₁ w₁ from harr)⟩
 |panic ch=>exact⟨.panic ch,a₁,w₁,hq,.of_steps (.one f1 s1) (show ArrivesIn _ P _ b k cs (.panic ch) a₁ w₁ from harr)⟩
 |outgrown=>exact⟨.outgrown,a₁,w₁,hq,.of_steps (.one f1 s1) (show ArrivesIn _ P _ b k cs (.outgrown) a₁ w₁ from harr)⟩
theorem uG{H:aa}{φ:bI}{N:Addr→Prop}{w:World}{n:Nat}:∀(ps:List Tmp) (xs:List AV) (vs:List Value) {s:Nat→AV} {tmps:Array Value},xs.length=vs.length→(∀i (h1:i<xs.length) (h2:i<vs.length),RA H φ N w (xs[i]) (vs[i]))→tmps.size=n→
  (∀t,RA H φ N w (s t) (tmps.getD t undef))→(((ps.zip vs).foldl (fun t (p:Tmp×Value)=>t.setIfInBounds p.1 p.2) tmps).size=n∧∀t,RA H φ N w (kW n s ps xs t) (((ps.zip vs).foldl (fun t (p:Tmp×Value)=>t.setIfInBounds p.1 p.2) tmps).getD t undef))
 |[],_,_,s,tmps,_,_,hs,h=>⟨hs,h⟩
 |_::_,[],[],s,tmps,_,_,hs,h=>⟨hs,h⟩
 |_::_,[],_::_,_,_,hl,_,_,_=>by simp at hl
 |_::_,_::_,[],_,_,hl,_,_,_=>by simp at hl
 |p::ps,x::xs,v::vs,s,tmps,hl,hx,hs,h=>by
  have h1:cO H φ N w (cv n s (some p) x) (({tmps:=tmps,defers:=[]}:Act).put (some p) v):=cO.put (a:={tmps:=tmps,defers:=[]}) h (hx 0 (by simp) (by simp)) hs
  exact uG ps xs vs (by simpa using hl) (fun i h1 h2=>hx (i+1) (by simp;omega) (by simp;omega)) (by simpa using hs) h1
theorem Hd(ps:Array Tmp)(vs:Array Value)(tmps:Array Value):((ps.zip vs).foldl (fun t (x:Tmp×Value)=>match x with|(t1,a)=>t.setIfInBounds t1 a) tmps)=((ps.toList.zip vs.toList).foldl (fun t (p:Tmp×Value)=>t.setIfInBounds p.1 p.2) tmps):=by
 rw[←Array.toList_zip,Array.foldl_toList]
theorem Hr{P:Program}{hint':Nat→Bool}{n:Nat}{x y:Code}(hh:hint' 2000000=false)
  (ihx:∀{l:Nat} {hint:Nat→Bool} {H0:aa} {φ0:bI} {N0:Addr→Prop} {w0:World} {ds:DS} (hmk:hint 2000000=true→ds.marks=true∧Fence.wide.inRound l=Fence.wide) (hR0:Rel H0 φ0 N0 w0) (Q:bH) {s:Nat→AV} {H:aa} {φ:bI} {N:Addr→Prop} {a:Act} {w:World},Inv H0 φ0 N0 w0 n ds s H φ N a w→dQ P hint n H0 x Q s H→x.wpIn (Fence.wide.inRound l) 0 P (mv H0 φ0 N0 w0 n ds Q) a w)
  (ihy:∀{l:Nat} {hint:Nat→Bool} {H0:aa} {φ0:bI} {N0:Addr→Prop} {w0:World} {ds:DS} (hmk:hint 2000000=true→ds.marks=true∧Fence.wide.inRound l=Fence.wide) (hR0:Rel H0 φ0 N0 w0) (Q:bH) {s:Nat→AV} {H:aa} {φ:bI} {N:Addr→Prop} {a:Act} {w:World},Inv H0 φ0 N0 w0 n ds s H φ N a w→dQ P hint n H0 y Q s H→y.wpIn (Fence.wide.inRound l) 0 P (mv H0 φ0 N0 w0 n ds Q) a w)
  {r:Loop} {s0:Nat→AV} {Hk T:aa} {m:Nat} {args:List AV} {In:aa→Prop} {Ix:AX→aa→Prop} (hm:Hk.length=m) (hbel:mT Hk.length Hk) (hsb:∀t,lK Hk.length (s0 t))
  (hrx:r.assign=x) (hry:r.body=y) (hrs:r.state= .ready) (hrp:r.pending=none) (hrt:r.tmps.size=n) (hpa:args.length=r.params.size) (hab:∀v∈args,lK Hk.length v)
  (h:dQ P hint' n Hk x (fun e s1 H2=>match e with
    | .normal=>dQ P hint' n Hk y (fun e s2 H3=>∃s3 H4,ay Hk s2 H3 s3 H4∧H4.length=m∧(match e with| .normal=>In H4| .panic _=>False|e=>Ix e H4)) s1 H2
    |_=>False) (kW n s0 r.params.toList args) Hk):
  yP P (Hk++ .lp r s0::T) m args fun b G=>if b=true then ∃Hk',(In Hk'∧mT Hk'.length Hk'∧Hk'.length=m)∧G=Hk'++ .lp r s0::T else ∃Hk' c,(∃e,AX.jump e=some c∧Ix e Hk'∧mT Hk'.length Hk')∧mT m Hk'∧Hk'.length=m∧G=Hk'++ .lp (vy r c) s0::T:=by
 subst hm
 have hlp:(Hk++aT.lp r s0::T)[Hk.length]?=some (.lp r s0):=by simp
 have hml:Hk.length<(Hk++aT.lp r s0::T).length:=by simp
 refine⟨⟨r,s0,hlp⟩,fun φ N w vals B c hR hA hB=>?_⟩
 cases hR.obj _ _ hlp with
 |lp _ _ B' c' hp hb hts=>
 rw[hB]at hp;cases hp
 have hRk:=hR.pre hbel
 have hvl:vals.size=r.params.size:=by rw[←hA.1];exact hpa
 have hy:=run_yield (P:=P) (args:=vals) hb hvl
 obtain⟨fz1,fz2⟩:=uG (n:=n) r.params.toList args vals.toList (s:=s0) (tmps:=r.tmps) (by rw[Array.length_toList];exact hA.1) (fun i h1 h2=>(hA.2 i h1 (by simpa using h2)).pre (hab _ (List.getElem_mem h1))) hrt (fun t=>(hts t).pre (hsb t))
 rw[←Hd]at fz1 fz2
 refine⟨_,_,_,_,hy,roundIn_of_wpIn trivial ?_⟩
 rw[hrx,hry]
 have hI:Inv Hk φ N w n ⟨false,[]⟩ (kW n s0 r.params.toList args) Hk φ N {tmps:=(r.params.zip vals).foldl (fun t (x:Tmp×Value)=>match x with|(t1,a)=>t.setIfInBounds t1 a) r.tmps,defers:=[]} w:=
  ⟨hRk,fz2,aF.refl,fz1,jn.refl⟩
 refine wpIn_mono (ihx (fun e=>by rw[hh]at e;cases e) hRk _ hI h) ?_
 rintro e a1 w1 ⟨ax,s1,H1,φ1,N1,rfl,hq,hI1⟩
 cases ax with
 |exit _=>exact hq.elim
 |ret=>exact hq.elim
 |panic _=>exact hq.elim
 |normal=>
 have hBout:∀id c',id<Hk.length→φ id≠some (B,c'):=fun id c' hid hp=>by
  have:=hR.inj id Hk.length B c' c (by simp;omega) hml hp hB
  omega
 have hBlt:B<w.heap.size:=(Array.getElem?_eq_some_iff.1 hb).1
 have hBout1:∀id c',id<H1.length→φ1 id≠some (B,c'):=fun id c' hid hp=>by
  obtain⟨id0,c0,h1,h2⟩:=hI1.since.own id B c' hid hp hBlt
  exact hBout id0 c0 h1 h2
 have hb1:w1.heap[B]?=some (.loop r):=(hI1.since.ev B hBlt hBout).trans hb
 refine⟨_,run_beginRound hb1 hrs,?_⟩
 generalize hrb:({r with state:= .busy}:Loop)=rb
 obtain⟨hR2,hra2⟩:=hI1.rel.put (o':= .loop rb) hb1 (fun _ _ _ e=>by cases e) hBout1
 obtain⟨hRb,_⟩:=hRk.put (o':= .loop rb) hb (fun _ _ _ e=>by cases e) hBout
 have hI2:Inv Hk φ N (w.putObj B (.loop rb)) n ⟨false,a1.defers⟩ s1 H1 φ1 N1 a1 (w1.putObj B (.loop rb)):=⟨hR2,fun t=>hra2 _ _ (hI1.tmps t),hI1.since.both hBlt _,hI1.size,jn.refl⟩
 refine wpIn_mono (ihy (fun e=>by rw[hh]at e;cases e) hRb _ hI2 hq) ?_
 rintro e a2 w3 ⟨ax2,s2,H2,φ2,N2,rfl,⟨s3,H4,hW,hl4,hq2⟩,hI3⟩
 obtain⟨φ3,N3,hI4⟩:=hW.ok hRb hI3
 have hb4:w3.heap[B]?=some (.loop rb):=(hI4.since.ev B (by rw[World.putObj_size];exact hBlt) hBout).trans (World.putObj_heap_same hBlt)
 have hBout4:∀id c',id<H4.length→φ3 id≠some (B,c'):=fun id c' hid hp=>by
  obtain⟨id0,c0,h1,h2⟩:=hI4.since.own id B c' hid hp (by rw[World.putObj_size];exact hBlt)
  exact hBout id0 c0 h1 h2
 have fin:∀(jump:Option Code),∃r4 w4,(Instr.endRound B jump).run P w3= .ok (.bool jump.isNone) w4∧r4={r with state:=if jump.isNone then .ready else .done,pending:=jump}∧
   ∃φ',Rel (H4++ .lp r4 s0::T) φ' N3 w4∧aF (Hk++ .lp r s0::T) φ N w (H4++ .lp r4 s0::T) φ' N3 w4:=by
  intro jump
  have hend:=run_endRound (P:=P) jump hb4
  obtain⟨hR5,_⟩:=hI4.rel.put (o':= .loop {rb with state:=if jump.isNone then .ready else .done,pending:=jump}) hb4 (fun _ _ _ e=>by cases e) hBout4
  have hX:=hI4.since.Of.put (.loop {rb with state:=if jump.isNone then .ready else .done,pending:=jump})
  have hb5:(w3.putObj B (.loop {rb with state:=if jump.isNone then .ready else .done,pending:=jump})).heap[B]?=some (.loop {rb with state:=if jump.isNone then .ready else .done,pending:=jump}):=World.putObj_heap_same (Array.getElem?_eq_some_iff.1 hb4).1
  obtain⟨φ',hR6,hS6⟩:=Gs hR hB hX hR5 hl4 hb5 (by rw[←hrb])
  exact⟨_,_,hend,by rw[←hrb],φ',hR6,hS6⟩
 have hob4:=hI4.rel.LF
 have stop:∀c,Ix ax2 H4→AX.jump ax2=some c→∃v w4,(Instr.endRound B (some c)).run P w3= .ok v w4∧∃b H' φ' N',Ending.returned v= .returned (.bool b)∧
   (if b=true then ∃Hk',(In Hk'∧mT Hk'.length Hk'∧Hk'.length=Hk.length)∧H'=Hk'++ .lp r s0::T else ∃Hk' c,(∃e,AX.jump e=some c∧Ix e Hk'∧mT Hk'.length Hk')∧mT Hk.length Hk'∧Hk'.length=Hk.length∧H'=Hk'++ .lp (vy r c) s0::T)∧Rel H' φ' N' w4∧aF (Hk++ .lp r s0::T) φ N w H' φ' N' w4:=by
  intro c hix hj
  obtain⟨r4,w4,hend,hr4,φ',hR6,hS6⟩:=fin (some c)
  refine⟨_,w4,hend,false,_,φ',N3,rfl,?_,hR6,hS6⟩
  rw[if_neg (by simp)]
  exact⟨H4,c,⟨ax2,hj,hix,hob4⟩,by rw[←hl4];exact hob4,hl4,by rw[hr4];rfl⟩
 cases ax2 with
 |normal=>
  obtain⟨r4,w4,hend,hr4,φ',hR6,hS6⟩:=fin none
  refine⟨_,w4,hend,true,_,φ',N3,rfl,?_,hR6,hS6⟩
  show(if true=true then _ else _)
  rw[if_pos rfl]
  refine⟨H4,⟨hq2,hob4,hl4⟩,?_⟩
  have:r4=r:=by
   rw[hr4]
   cases r
   simp only at hrs hrp
   subst hrs hrp
   rfl
  rw[this]
 |ret=>exact stop .ret hq2 rfl
 |exit id=>exact stop (.exit id) hq2 rfl
 |panic v=>exact hq2.elim
theorem GQ{P:Program}{n:Nat}{x y:Code}{g:Operand}{ps:Array Tmp}{H0:aa}{φ0:bI}{N0:Addr→Prop}{w0:World}{ds:DS}(hmk:ds.marks=true)(hR0:Rel H0 φ0 N0 w0)
  (ihx:∀{l:Nat} {hint:Nat→Bool} {H0:aa} {φ0:bI} {N0:Addr→Prop} {w0:World} {ds:DS} (hmk:hint 2000000=true→ds.marks=true∧Fence.wide.inRound l=Fence.wide) (hR0:Rel H0 φ0 N0 w0) (Q:bH) {s:Nat→AV} {H:aa} {φ:bI} {N:Addr→Prop} {a:Act} {w:World},Inv H0 φ0 N0 w0 n ds s H φ N a w→dQ P hint n H0 x Q s H→x.wpIn (Fence.wide.inRound l) 0 P (mv H0 φ0 N0 w0 n ds Q) a w)
  (ihy:∀{l:Nat} {hint:Nat→Bool} {H0:aa} {φ0:bI} {N0:Addr→Prop} {w0:World} {ds:DS} (hmk:hint 2000000=true→ds.marks=true∧Fence.wide.inRound l=Fence.wide) (hR0:Rel H0 φ0 N0 w0) (Q:bH) {s:Nat→AV} {H:aa} {φ:bI} {N:Addr→Prop} {a:Act} {w:World},Inv H0 φ0 N0 w0 n ds s H φ N a w→dQ P hint n H0 y Q s H→y.wpIn (Fence.wide.inRound l) 0 P (mv H0 φ0 N0 w0 n ds Q) a w)
  {Q:bH} {s:Nat→AV} {H:aa} {φ:bI} {N:Addr→Prop} {a:Act} {w:World} (hI:Inv H0 φ0 N0 w0 n ds s H φ N a w)
  (h:∃(hint':Nat→Bool) (gf:FuncId) (caps:List AV) (xs:List (List AV)) (C:aa→Prop) (I:Nat→aa→Prop) (Ix:AX→aa→Prop) (s0:Nat→AV) (H1:aa),
   hint' 2000000=false∧ay H0 s H s0 H1∧ao s0 g= .fn gf caps∧Fj P gf caps C xs∧(∀v∈xs,v.length=ps.size∧∀u∈v,lK H1.length u)∧I 0 H1∧(∀k Hk,I k Hk→C Hk∧Hk.length=H1.length)∧
   (∀k (hk:k<xs.length) Hk,I k Hk→dQ P hint' n Hk x (fun e s1 H2=>match e with
    | .normal=>dQ P hint' n Hk y (fun e s2 H3=>∃s3 H4,ay Hk s2 H3 s3 H4∧H4.length=H1.length∧(match e with| .normal=>I (k+1) H4| .panic _=>False|e=>Ix e H4)) s1 H2
    |_=>False) (kW n s0 ps.toList (xs[k])) Hk)∧
   (∀Hn,I xs.length Hn→Q .normal s0 Hn)∧∀e Hx,Ix e Hx→Q e s0 Hx):
  (Code.rangeFunc g ps x y).wpIn Fence.wide 0 P (mv H0 φ0 N0 w0 n ds Q) a w:=by
 obtain⟨hint',gf,caps,xs,C,I,Ix,s0,H1,hh,hW,hg,hseq,hxs,h0,hIC,hround,hdone,hstop⟩:=h
 obtain⟨φ1,N1,hI1⟩:=hW.ok hR0 hI
 have hgv:=aB hI1.tmps g
 rw[hg]at hgv
 generalize hge:a.eval g=gv at hgv
 cases hgv with
 |fn _ _ vs hcl hcv=>
 refine wpIn_rangeFunc fun fn _=>?_
 have hlt0:w0.heap.size≤w.heap.size:=hI1.since.size
 let r:Loop:={state:= .ready,pending:=none,fn:=fn,tmps:=a.tmps,params:=ps,assign:=x,body:=y,defers:=w.heap.size}
 have hRd:Rel H1 φ1 N1 (w.alloc (.deferred (some [])))∧aF H1 φ1 N1 w H1 φ1 N1 (w.alloc (.deferred (some []))):=by
  have hS:=aF.fixed hI1.rel (.deferred (some [])) N1 (fun _ h=>h) (fun _ h=> .inl h)
  exact⟨hI1.rel.off (fun id B c hid hp=>Below.heap_alloc w _ B (hI1.rel.dI hid hp)) fun a v _ hv=>by
   rw[World.cell?_of_block (w:=w) (Below.heap_alloc w _ _ (World.block_lt_of_cell? w a hv))];exact hv,hS⟩
 obtain⟨hRd,hSd⟩:=hRd
 have hDd:(w.alloc (.deferred (some []))).heap[w.heap.size]?=some (.deferred (some [])):=World.alloc_heap_new w _
 have hSl:=aF.new hRd (.loop r) (.lp r s0) 0
 have hts1:∀t,RA (H1++[.lp r s0]) (φ1.put H1.length (some ((w.alloc (.deferred (some []))).heap.size,0))) N1 ((w.alloc (.deferred (some []))).alloc (.loop r)) (s0 t) (r.tmps.getD t undef):=fun t=>((hI1.tmps t).since hI1.rel hSd).since hRd hSl
 have hRl:=hRd.new (.loop r) (.lp r s0) 0 (.lp r s0 _ 0 (bI.a9 _ _ _) (World.alloc_heap_new _ _) hts1)
 have hDl:((w.alloc (.deferred (some []))).alloc (.loop r)).heap[w.heap.size]?=some (.deferred (some [])):=(Below.heap_alloc _ _ _ (by simp)).trans hDd
 have hSw:=hSd.trans hSl
 have hDout1:∀id c,id<(H1++[aT.lp r s0]).length→(φ1.put H1.length (some ((w.alloc (.deferred (some []))).heap.size,0))) id≠some (w.heap.size,c):=by
  intro id c hid hp
  by_cases e:id=H1.length
  ·subst e
   rw[bI.a9]at hp
   have:=(Prod.mk.inj (Option.some.inj hp)).1
   simp at this
  ·rw[bI.bN _ _ _ _ e]at hp
   have:=hI1.rel.dI (by simp at hid;omega) hp
   omega
 have hpl:(φ1.put H1.length (some ((w.alloc (.deferred (some []))).heap.size,0))) H1.length=some (w.heap.size+1,0):=by rw[bI.a9];simp
 have henter:=run_enterLoop_outer (P:=P) (w:=w) fn a.tmps ps x y
 have hsz1:(w.alloc (.deferred (some []))).heap.size=w.heap.size+1:=by simp
 generalize (φ1.put H1.length (some ((w.alloc (.deferred (some []))).heap.size,0)))=φ2 at*
 have hB:∃W1,(w.alloc (.deferred (some []))).alloc (.loop r)=W1:=⟨_,rfl⟩
 obtain⟨W1,hW1⟩:=hB
 have henter':(Instr.enterLoop fn a.tmps ps x y none).run P w= .ok (w.heap.size+1,[{target:= .collected w.heap.size,args:=#[]}]) W1:=by rw[←hW1];exact henter
 rw[hW1]at hRl hDl hSw hts1
 clear henter hW1 hSl hRd hSd hDd
 have hbelS:∀t,lK H1.length (s0 t):=fun t=>(hI1.tmps t).bel
 have hlen1:(H1++[aT.lp r s0]).length=H1.length+1:=by simp
 have hcall:=hseq r s0 (fun k Hk=>I k Hk∧mT Hk.length Hk∧Hk.length=H1.length) (fun c Hx=>∃e,AX.jump e=some c∧Ix e Hx∧mT Hx.length Hx) H1.length H1 ⟨h0,hI1.rel.LF,rfl⟩ hbelS (fun k Hk hk=>⟨(hIC k Hk hk.1).1,by rw[←hk.2.2];exact hk.2.1,hk.2.2⟩)
  (fun k hk Hk T hJ=>Hr (P:=P) hh ihx ihy hJ.2.2 hJ.2.1 (fun t=>by rw[hJ.2.2];exact hbelS t) rfl rfl rfl rfl hI1.size (hxs _ (List.getElem_mem hk)).1 (fun v hv=>by rw[hJ.2.2];exact(hxs _ (List.getElem_mem hk)).2 v hv) (hround k hk Hk hJ.1))
 have hyl:RA (H1++[.lp r s0]) φ2 N1 W1 (.k8 H1.length) (.func (.yield (w.heap.size+1)) #[] #[]):= .k8 _ _ (.lp r s0) (by simp) fun _=>⟨0,hpl⟩
 have hargs:tF (H1++[.lp r s0]) φ2 N1 W1 (.k8 H1.length::caps) (#[.func (.yield (w.heap.size+1)) #[] #[]]++vs):=by
  refine⟨by simp[hcl];omega,fun i h1 h2=>?_⟩
  cases i with
  |zero=>simpa using hyl
  |succ i=>
   rw[Array.getElem_append_right (by simp)]
   simp only[List.getElem_cons_succ]
   have:=(hcv i (by simp at h1;omega) (by simp at h2;omega)).since hI1.rel hSw
   simpa using this
 obtain⟨hrun,hC⟩:=hcall φ2 N1 W1 _ hRl hargs
 refine⟨w.heap.size+1,[{target:= .collected w.heap.size,args:=#[]}],W1,{target:= .fn (.func gf) vs,args:=#[.func (.yield (w.heap.size+1)) #[] #[]]},W1,gf,
  #[.func (.yield (w.heap.size+1)) #[] #[]]++vs,W1,henter',?_,fun _ _=>trivial,?_,fun h=>(by cases h),?_⟩
 ·simp only[resolve,hge]
  simp[go_sem,Deferred.ofValue]
 ·simpa[invoke]using hrun
 refine callsIn_wide.2 (Calls.mono hC ?_)
 rintro e w3 ⟨res,G,φ3,N3,⟨rfl,hG⟩,hR3,hS3,hE⟩
 cases e with
 |panicked ch=>exact hE.elim
 |outgrown=>exact hE.elim
 |returned v=>
 have fin:∀(Hn:aa) (r':Loop),G=Hn++[.lp r' s0]→mT Hn.length Hn→Hn.length=H1.length→r'.state≠ .busy→∃w4,(Instr.endLoop (w.heap.size+1)).run P w3= .ok r'.pending w4∧
   ∃φ' N',Inv H0 φ0 N0 w0 n ds s0 Hn φ' N' {a with defers:=[{target:= .collected w.heap.size,args:=#[]}]++a.defers} w4:=by
  rintro Hn r' rfl hbel hlen hbusy
  have hlp3:(Hn++[aT.lp r' s0])[Hn.length]?=some (.lp r' s0):=by simp
  have hp3:φ3 Hn.length=some (w.heap.size+1,0):=by
   obtain⟨o',ho',_,_,hq,_⟩:=hS3.c8 H1.length (.lp r s0) (by simp)
   rw[←hlen,hlp3]at ho'
   cases ho'
   rw[←hpl,hlen]
   exact(hq rfl).1
  cases hR3.obj _ _ hlp3 with
  |lp _ _ B c hp hb hts=>
  rw[hp3]at hp
  obtain⟨rfl,rfl⟩:=Prod.mk.inj (Option.some.inj hp)
  have hend:=run_endLoop (P:=P) hb hbusy
  refine⟨_,hend,φ3,N3,?_⟩
  generalize hro:({r' with state:= .exhausted}:Loop)=ro
  have hRn:=hR3.pre hbel
  have hBout:∀id c',id<Hn.length→φ3 id≠some (w.heap.size+1,c'):=fun id c' hid hp=>by
   have:=hR3.inj id Hn.length _ c' 0 (by simp;omega) (by simp) hp hp3
   omega
  obtain⟨hRf,hraf⟩:=hRn.put (o':= .loop ro) hb (fun _ _ _ e=>by cases e) hBout
  have hSall:aF H0 φ0 N0 w0 (Hn++[.lp r' s0]) φ3 N3 w3:=(hI1.since.trans hSw).trans hS3
  have hSn:=((hSall.pre (by rw[hlen];exact hI1.since.len)).x (w.heap.size+1)).put (.loop ro)|>.since (by omega)
  have hDlt:w.heap.size<W1.heap.size:=(Array.getElem?_eq_some_iff.1 hDl).1
  refine⟨hRf,fun t=>hraf _ _ ((((hI1.tmps t).since hI1.rel (hSw.trans hS3))).pre (by rw[hlen];exact hbelS t)),hSn,hI1.size,?_⟩
  obtain⟨ms,hms,_,hmarks⟩:=hI1.defers
  refine⟨{target:= .collected w.heap.size,args:=#[]}::ms,by simp[hms],fun e=>(by rw[hmk]at e;cases e),⟨w.heap.size,hlt0,rfl,?_,?_,?_⟩,?_⟩
  ·rw[World.putObj_heap_other (by omega)]
   exact(hS3.ev _ hDlt hDout1).trans hDl
  ·intro id c hid hp
   obtain⟨id0,c0,g1,g2⟩:=hS3.own id _ c (by simp;omega) hp hDlt
   exact hDout1 id0 c0 g1 g2
  ·intro d' hd' e
   have key:∀{ds:List Deferred},Marks w0.heap.size H1 φ1 w ds→∀d∈ds,∃D,D<w.heap.size∧d={target:= .collected D,args:=#[]}:=by
    intro ds
    induction ds with
    |nil=>intro _ d hd;cases hd
    |cons d0 ds ih=>
     rintro⟨⟨D,_,h1,h2,_⟩,h3⟩ d hd
     rcases List.mem_cons.1 hd with rfl|hd
     ·exact⟨D,(Array.getElem?_eq_some_iff.1 h2).1,h1⟩
     ·exact ih h3 d hd
   obtain⟨D,hD,hd2⟩:=key hmarks d' hd'
   rw[hd2]at e
   have:D=w.heap.size:=by injection e with e1;injection e1
   omega
  ·refine hmarks.mono fun D hD _ _ hn=>⟨?_,fun id c hid hp=>?_⟩
   ·rw[World.putObj_heap_other (by omega)]
    exact(hSw.trans hS3).ev D hD hn
   ·obtain⟨id0,c0,g1,g2⟩:=(hSw.trans hS3).own id D c (by simp;omega) hp hD
    exact hn id0 c0 g1 g2
 rcases hG with⟨Hn,⟨hIn,hbel,hlen⟩,hG⟩|⟨Hx,c,⟨ax,hj,hix,hbel⟩,hlen,hG⟩
 ·obtain⟨w4,hend,φ',N',hIf⟩:=fin Hn r hG hbel hlen (by simp[r])
  exact⟨none,w4,hend,.normal,s0,Hn,φ',N',rfl,hdone Hn hIn,hIf⟩
 ·obtain⟨w4,hend,φ',N',hIf⟩:=fin Hx (vy r c) hG hbel hlen (by simp[vy])
  refine⟨some c,w4,hend,?_⟩
  cases ax with
  |normal=>cases hj
  |panic v=>cases hj
  |ret=>cases hj;exact wpIn_ret ⟨.ret,s0,Hx,φ',N',rfl,hstop _ Hx hix,hIf⟩
  |exit id=>cases hj;exact wpIn_exit ⟨.exit id,s0,Hx,φ',N',rfl,hstop _ Hx hix,hIf⟩
theorem Dk:∀(c:Code) {F:Fence} (hF:fP F) {hint:Nat→Bool} {H0:aa} {φ0:bI} {N0:Addr→Prop} {w0:World} {ds:DS} (hmk:hint 2000000=true→ds.marks=true∧F=Fence.wide) (hR0:Rel H0 φ0 N0 w0) (Q:bH) {s:Nat→AV} {H:aa} {φ:bI} {N:Addr→Prop} {a:Act} {w:World},
  Inv H0 φ0 N0 w0 n ds s H φ N a w→dQ P hint n H0 c Q s H→c.wpIn F 0 P (mv H0 φ0 N0 w0 n ds Q) a w:=by
 intro c
 induction c with
 |skip=>exact fun hF _ _ _ _ _ _ hmk hR0 Q s H φ N a w hI h=>wpIn_skip ⟨.normal,s,H,φ,N,rfl,h,hI⟩
 |label l=>exact fun hF _ _ _ _ _ _ hmk hR0 Q s H φ N a w hI h=>wpIn_label ⟨.normal,s,H,φ,N,rfl,h,hI⟩
 |region id ops draw=>
  intro F hF hint H0 φ0 N0 w0 ds hmk hR0 Q s H φ N a w hI h
  cases draw with
  |false=>
   have h':bK P hint n ops Q ops.toList s H:=h
   refine wpIn_region ?_
   have:=sa hF ops.toList 0 (fun j=>by simp) hI h'
   rw[List.range_eq_range']
   simpa using this
  |true=>
   obtain⟨hm,h'⟩:P.follows .mixedOrders=true∧iM P hint n ops Q ops.size (Array.replicate ops.size false) s H:=h
   refine wpIn_region_any hm ?_
   have hI':Inv H0 φ0 N0 w0 n ds s H φ N a {w with drawn:=w.drawn+1}:=
    ⟨hI.rel.drawn rfl rfl rfl rfl,fun t=>RA.since hI.rel (aF.drawn (w':={w with drawn:=w.drawn+1}) rfl rfl rfl rfl) (hI.tmps t),hI.since.trans (aF.drawn rfl rfl rfl rfl),hI.size,jn.mono (w:=w) (w':={w with drawn:=w.drawn+1}) (fun D _ _ _ hn=>⟨rfl,hn⟩) hI.defers⟩
   exact p0 hF _ _ hI' h'
 |seq x y ihx ihy=>
  intro F hF hint H0 φ0 N0 w0 ds hmk hR0 Q s H φ N a w hI h
  refine wpIn_seq (wpIn_mono (ihx hF hmk hR0 _ hI h) ?_)
  rintro e a' w' ⟨ax,s',H',φ',N',rfl,hq,hI'⟩
  cases ax with
  |normal=>
   have hq:if fu hint y=true then ∃s'' H'',ay H0 s' H' s'' H''∧dQ P hint n H0 y Q s'' H'' else dQ P hint n H0 y Q s' H':=hq
   split at hq
   ·obtain⟨s'',H'',hW,hq⟩:=hq
    obtain⟨φ1,N1,hI1⟩:=hW.ok hR0 hI'
    exact ihy hF hmk hR0 Q hI1 hq
   ·exact ihy hF hmk hR0 Q hI' hq
  |exit id=>exact⟨.exit id,s',H',φ',N',rfl,hq,hI'⟩
  |ret=>exact⟨.ret,s',H',φ',N',rfl,hq,hI'⟩
  |panic v=>exact⟨.panic v,s',H',φ',N',rfl,hq,hI'⟩
 |cond c x y ihx ihy=>
  intro F hF hint H0 φ0 N0 w0 ds hmk hR0 Q s H φ N a w hI h
  unfold dQ at h
  split at h
  ·rename_i b hb
   have hv:=(show RA H φ N w (.d (.v (.bool b))) (a.eval c)from by rw[←hb];exact aB hI.tmps c).closed
   cases b with
   |true=>exact wpIn_cond_true hv (ihx hF hmk hR0 Q hI (by simpa using h))
   |false=>exact wpIn_cond_false hv (ihy hF hmk hR0 Q hI (by simpa using h))
  ·exact h.elim
 |block id x ih=>
  intro F hF hint H0 φ0 N0 w0 ds hmk hR0 Q s H φ N a w hI h
  refine wpIn_block (wpIn_mono (ih hF hmk hR0 _ hI h) ?_)
  rintro e a' w' ⟨ax,s',H',φ',N',rfl,hq,hI'⟩
  cases ax with
  |normal=>exact⟨.normal,s',H',φ',N',rfl,hq,hI'⟩
  |exit i=>
   simp only[AX.HV,Exit.inBlock]
   have hq:if i=id then Q .normal s' H' else Q (.exit i) s' H':=hq
   by_cases hi:i=id
   ·rw[if_pos hi]
    rw[if_pos hi]at hq
    exact⟨.normal,s',H',φ',N',rfl,hq,hI'⟩
   ·rw[if_neg hi]
    rw[if_neg hi]at hq
    exact⟨.exit i,s',H',φ',N',rfl,hq,hI'⟩
  |ret=>exact⟨.ret,s',H',φ',N',rfl,hq,hI'⟩
  |panic v=>exact⟨.panic v,s',H',φ',N',rfl,hq,hI'⟩
 |scope x ih=>
  intro F hF hint H0 φ0 N0 w0 ds hmk hR0 Q s H φ N a w hI h
  refine Bk (wpIn_mono (ih hF hmk hR0 _ hI h) ?_)
  rintro e a' w' ⟨ax,s',H',φ',N',rfl,hq,hI'⟩
  cases ax with
  |normal=>exact⟨.normal,s',H',φ',N',rfl,hq,hI'⟩
  |exit i=>exact⟨.exit i,s',H',φ',N',rfl,hq,hI'⟩
  |ret=>exact⟨.ret,s',H',φ',N',rfl,hq,hI'⟩
  |panic v=>exact⟨.panic v,s',H',φ',N',rfl,hq,hI'⟩
 |loop x ih=>
  intro F hF hint H0 φ0 N0 w0 ds hmk hR0 Q s H φ N a w hI h
  obtain⟨I,m,⟨s1,H1,hW,h1⟩,hstep⟩:=h
  obtain⟨φ1,N1,hI1⟩:=hW.ok hR0 hI
  refine Af (fun m a w=>∃s H φ N,I m s H∧Inv H0 φ0 N0 w0 n ds s H φ N a w) (n:=m) ?_ ⟨s1,H1,φ1,N1,h1,hI1⟩
  rintro m a w ⟨s,H,φ,N,hIm,hI⟩
  refine wpIn_mono (ih hF hmk hR0 _ hI (hstep m s H hIm)) ?_
  rintro e a' w' ⟨ax,s',H',φ',N',rfl,hq,hI'⟩
  cases ax with
  |normal=>
   obtain⟨s2,H2,m',hW2,hm,hlt⟩:=hq
   obtain⟨φ2,N2,hI2⟩:=hW2.ok hR0 hI'
   exact⟨m',hlt,s2,H2,φ2,N2,hm,hI2⟩
  |exit i=>exact⟨.exit i,s',H',φ',N',rfl,hq,hI'⟩
  |ret=>exact⟨.ret,s',H',φ',N',rfl,hq,hI'⟩
  |panic v=>exact⟨.panic v,s',H',φ',N',rfl,hq,hI'⟩
 |exit id=>exact fun hF _ _ _ _ _ _ hmk hR0 Q s H φ N a w hI h=>wpIn_exit ⟨.exit id,s,H,φ,N,rfl,h,hI⟩
 |ret=>exact fun hF _ _ _ _ _ _ hmk hR0 Q s H φ N a w hI h=>wpIn_ret ⟨.ret,s,H,φ,N,rfl,h,hI⟩
 |rangeFunc g ps x y ihx ihy=>
  intro F hF hint H0 φ0 N0 w0 ds hmk hR0 Q s H φ N a w hI h
  obtain⟨hm,h⟩:=h
  obtain⟨hmk1,rfl⟩:=hmk hm
  exact GQ hmk1 hR0 (fun hmk' hR=>ihx (.inr ⟨_,rfl⟩) hmk' hR) (fun hmk' hR=>ihy (.inr ⟨_,rfl⟩) hmk' hR) hI h
 |_=>intros;rename_i h;exact h.elim
theorem Cv(hmk:hint 2000000=true→ds.marks=true)(hR0:Rel H0 φ0 N0 w0)(c:Code)(Q:bH){s:Nat→AV}{H:aa}{φ:bI}{N:Addr→Prop}{a:Act}{w:World}(hI:Inv H0 φ0 N0 w0 n ds s H φ N a w)(h:dQ P hint n H0 c Q s H):c.wp P (mv H0 φ0 N0 w0 n ds Q) a w:=
 wpIn_wide.1 (Dk c (.inl rfl) (fun h=>⟨hmk h,rfl⟩) hR0 Q hI h)
def jY(rs:List Tmp)(s:Nat→AV):AV:=
 match rs with
 |[t]=>s t
 |l=> .bz (l.map s)
def aw(rs:List Tmp)(H0:aa)(res:lH)(H':aa):bH:=fun e s H=>
 match e with
 | .normal=>∃s',ay H0 s H s' H'∧res= .ok (jY rs s')
 | .ret=>∃s',ay H0 s H s' H'∧res= .ok (jY rs s')
 | .panic v=>∃s',ay H0 s H s' H'∧res= .panic v
 |_=>False
def kC(args:List AV):Nat→AV:=fun t=>args.getD t .top
def B7(tmps:Array Value):List Tmp→Value
 |[t]=>tmps.getD t undef
 |l=> .tuple (l.map fun t=>tmps.getD t undef).toArray
theorem lM{fn:Func}(rs:List Tmp)(h:fn.results.toList=rs.map .tmp)(hl:rs.length≤4)(tmps:Array Value)(w:World):
  (results fn tmps).run P w= .ok (B7 tmps rs) w:=by
 have h':fn.results=(rs.map .tmp).toArray:=by rw[←h]
 match rs,hl,h' with
 |[],_,h'=>simp[results,h',B7]
 |[_],_,h'=>simp[results,h',B7]
 |[_,_],_,h'=>simp[results,h',B7]
 |[_,_,_],_,h'=>simp[results,h',B7]
 |[_,_,_,_],_,h'=>simp[results,h',B7]
 |_::_::_::_::_::_,hl,_=>simp at hl
theorem je{f:FuncId}{fn:Func}(hf:P.funcs[f]?=some fn)(hn:(fn.name== "runtime.NumGoroutine")=false)(hb:fn.body.isSome=true)(vals:Array Value)(w:World):(callFunc f vals).run P w= .ok (.enter f vals) w:=by
 have h1:fn.name≠ "runtime.NumGoroutine" :=by simpa using hn
 have h2:fn.body≠none:=by intro h;rw[h]at hb;cases hb
 simp[callFunc,hf,h1,h2]
theorem ja{fn:Func}{R:Ending→World→Prop}{u:FrameMode}(hu:u≠ .run){s:Nat→AV}{H:aa}{φ:bI}{N:Addr→Prop}{tmps:Array Value}:∀(ms:List Deferred) {w:World},Inv H0 φ0 N0 w0 n ⟨true,[]⟩ s H φ N {tmps:=tmps,defers:=ms} w→
  (∀w',Inv H0 φ0 N0 w0 n ⟨true,[]⟩ s H φ N {tmps:=tmps,defers:=[]} w'→LeavesInM Fence.wide 0 P fn tmps R [] u w')→LeavesInM Fence.wide 0 P fn tmps R ms u w
 |[],w,hI,h=>h w hI
 |d::ms,w,hI,h=>by
  obtain⟨ms',hms,_,hmk⟩:=hI.defers
  rw[List.append_nil]at hms
  have hms:d::ms=ms':=hms
  subst hms
  obtain⟨⟨D,h0,h1,h2,h3,h4⟩,h5⟩:=hmk
  refine⟨hu,.inl ⟨D,w.putObj D (.deferred none),by rw[h1],run_takeDeferred h2,ja hu ms ?_ h⟩⟩
  obtain⟨hR,hra⟩:=hI.rel.put (o':= .deferred none) h2 (fun _ _ _ e=>by cases e) h3
  refine⟨hR,fun t=>hra _ _ (hI.tmps t),((hI.since.x D).put _).since h0,hI.size,⟨ms,by simp,fun e=>(by cases e),?_⟩⟩
  have key:∀{ds:List Deferred},(∀d'∈ds,d'≠d)→Marks w0.heap.size H φ w ds→Marks w0.heap.size H φ (w.putObj D (.deferred none)) ds:=by
   intro ds
   induction ds with
   |nil=>exact fun _ _=>trivial
   |cons d1 ds ih=>
    rintro hne ⟨⟨D1,g0,g1,g2,g3,g4⟩,g5⟩
    refine⟨⟨D1,g0,g1,?_,g3,g4⟩,ih (fun d' hd'=>hne d' (List.mem_cons_of_mem _ hd')) g5⟩
    rw[World.putObj_heap_other fun e=>hne d1 (List.mem_cons_self ..) (by rw[g1,h1,e])]
    exact g2
  exact key h4 h5
theorem tF.init{H:aa}{φ:bI}{N:Addr→Prop}{w:World}{args:List AV}{vals:Array Value}(h:tF H φ N w args vals)(n:Nat):cO H φ N w (kC args) {tmps:=vals++Array.replicate (n-vals.size) undef,defers:=[]}:=by
 intro t
 simp only[kC]
 by_cases ht:t<args.length
 ·have ht':t<vals.size:=by rw[←h.1];exact ht
  have:=h.2 t ht ht'
  have e1:args.getD t .top=args[t]:=by simp[List.getD,ht]
  have e2:(vals++Array.replicate (n-vals.size) undef).getD t undef=vals[t]:=by
   rw[Array.getD_eq_getD_getElem?,Array.getElem?_append_left ht'];simp[ht']
  rw[e1,e2]
  exact this
 ·have e1:args.getD t .top= .top:=by simp[List.getD,List.getElem?_eq_none (Nat.le_of_not_lt ht)]
  rw[e1]
  exact .top _
theorem IV{s:Nat→AV}{H:aa}{φ:bI}{N:Addr→Prop}{a:Act}{w:World}(hI:Inv H0 φ0 N0 w0 n ⟨true,[]⟩ s H φ N a w):Inv H0 φ0 N0 w0 n ⟨true,[]⟩ s H φ N {tmps:=a.tmps,defers:=[]} w:=
 ⟨hI.rel,hI.tmps,hI.since,hI.size,jn.refl⟩
theorem kP{f:FuncId}{fn:Func}{body:Code}(hf:P.funcs[f]?=some fn)(hb:fn.body=some body){args:List AV}{H:aa}{Q:bH}(ha:args.length≤fn.ntmps)(h:dQ P hint fn.ntmps H body Q (kC args) H)
  {φ:bI} {N:Addr→Prop} {w:World} {vals:Array Value} (hR:Rel H φ N w) (hA:tF H φ N w args vals) {R:Ending→World→Prop}
  (hend:∀{e s' H1 φ1 N1 tmps w'},Inv H φ N w fn.ntmps ⟨true,[]⟩ s' H1 φ1 N1 {tmps:=tmps,defers:=[]} w'→Q e s' H1→match e with
   | .normal| .ret=>∃v,(results fn tmps).run P w'= .ok v w'∧R (.returned v) w'
   | .panic v=>R (.panicked [{v:=v,recovered:=false}]) w'
   |_=>False):Calls P f vals w R:=by
 refine callsIn_wide.1 (callsIn_of_wp_marks (n:=0) (F:=Fence.wide) hf hb trivial ?_)
 have hI:Inv H φ N w fn.ntmps ⟨true,[]⟩ (kC args) H φ N {tmps:=vals++Array.replicate (fn.ntmps-vals.size) undef,defers:=[]} w:=
  ⟨hR,hA.init _,aF.refl,by simp;have:=hA.1;omega,jn.refl⟩
 refine wpIn_mono (Dk body (.inl rfl) (fun _=>⟨rfl,rfl⟩) hR _ hI h) ?_
 rintro e a' w' ⟨ax,s',H1,φ1,N1,rfl,hq,hI1⟩
 cases ax with
 |normal=>exact ja (by simp) a'.defers hI1 fun w2 hI2=>hend hI2 hq
 |ret=>exact ja (by simp) a'.defers hI1 fun w2 hI2=>hend hI2 hq
 |exit i=>exact(hend (e:= .exit i) (tmps:=a'.tmps) (w':=w') (IV hI1) hq).elim
 |panic v=>exact ja (by simp) a'.defers hI1 fun w2 hI2=>hend hI2 hq
theorem Dg{s:Nat→AV}{H:aa}{φ:bI}{N:Addr→Prop}{tmps:Array Value}{w:World}(h:∀t,RA H φ N w (s t) (tmps.getD t undef))(rs:List Tmp):RA H φ N w (jY rs s) (B7 tmps rs):=by
 have many:∀l:List Tmp,RA H φ N w (.bz (l.map s)) (.tuple (l.map fun t=>tmps.getD t undef).toArray):=fun l=> .bz _ _ (by simp) fun i h1 h2=>by simpa using h _
 match rs with
 |[]=>exact many []
 |[t]=>exact h t
 |t::u::l=>exact many (t::u::l)
theorem ag.aj{f:FuncId}{fn:Func}{body:Code}(hf:P.funcs[f]?=some fn)(hn:(fn.name== "runtime.NumGoroutine")=false)(hb:fn.body=some body)(rs:List Tmp)(hr:fn.results.toList=rs.map .tmp)(hl:rs.length≤4)
  {args:List AV} {H:aa} {res:lH} {H':aa} (ha:args.length≤fn.ntmps) (h:dQ P hint fn.ntmps H body (aw rs H res H') (kC args) H):ag P f args H res H':=by
 intro φ N w vals hR hA
 refine .inl ⟨je hf hn (by rw[hb];rfl) vals w,kP hf hb ha h hR hA ?_⟩
 intro e s' H1 φ1 N1 tmps w' hI1 hq
 have fin:∀(s'':Nat→AV),ay H s' H1 s'' H'→res= .ok (jY rs s'')→∃v,(results fn tmps).run P w'= .ok v w'∧∃φ' N',Rel H' φ' N' w'∧aF H φ N w H' φ' N' w'∧vN H' φ' N' w' res (.returned v):=by
  intro s'' hW hres
  obtain⟨φ2,N2,hI2⟩:=hW.ok hR hI1
  refine⟨_,lM rs hr hl _ _,φ2,N2,hI2.rel,hI2.since,?_⟩
  subst hres
  exact Dg hI2.tmps rs
 cases e with
 |normal=>
  obtain⟨s'',hW,hres⟩:=hq
  exact fin s'' hW hres
 |ret=>
  obtain⟨s'',hW,hres⟩:=hq
  exact fin s'' hW hres
 |exit i=>exact hq.elim
 |panic v=>
  obtain⟨s'',hW,rfl⟩:=hq
  obtain⟨φ2,N2,hI2⟩:=hW.ok hR hI1
  exact⟨φ2,N2,hI2.rel,hI2.since,rfl⟩
def LV(rs:List Tmp)(H0:aa)(R:lH→aa→Prop):bH:=fun e s H=>
 match e with
 | .normal=>∃s' H',ay H0 s H s' H'∧R (.ok (jY rs s')) H'
 | .ret=>∃s' H',ay H0 s H s' H'∧R (.ok (jY rs s')) H'
 |_=>False
theorem Dn.aj{f:FuncId}{fn:Func}{body:Code}(hf:P.funcs[f]?=some fn)(hn:(fn.name== "runtime.NumGoroutine")=false)(hb:fn.body=some body)(rs:List Tmp)(hr:fn.results.toList=rs.map .tmp)(hl:rs.length≤4)
  {args:List AV} {H:aa} {R:lH→aa→Prop} (ha:args.length≤fn.ntmps) (h:dQ P hint fn.ntmps H body (LV rs H R) (kC args) H):Dn P f args H R:=by
 intro φ N w vals hR hA
 refine⟨je hf hn (by rw[hb];rfl) vals w,kP hf hb ha h hR hA ?_⟩
 intro e s' H1 φ1 N1 tmps w' hI1 hq
 have fin:∀(s'':Nat→AV) H',ay H s' H1 s'' H'→R (.ok (jY rs s'')) H'→∃v,(results fn tmps).run P w'= .ok v w'∧∃res H' φ' N',R res H'∧Rel H' φ' N' w'∧aF H φ N w H' φ' N' w'∧vN H' φ' N' w' res (.returned v):=by
  intro s'' H' hW hres
  obtain⟨φ2,N2,hI2⟩:=hW.ok hR hI1
  exact⟨_,lM rs hr hl _ _,_,H',φ2,N2,hres,hI2.rel,hI2.since,Dg hI2.tmps rs⟩
 cases e with
 |normal=>
  obtain⟨s'',H',hW,hres⟩:=hq
  exact fin s'' H' hW hres
 |ret=>
  obtain⟨s'',H',hW,hres⟩:=hq
  exact fin s'' H' hW hres
 |exit i=>exact hq.elim
 |panic v=>exact hq.elim
end
end Go.Proofs.YtmbagpfmfiegkaaGreatAw
namespace Go.Proofs.YtmbagpfmfiegkaaGreat.K
open Go.Proofs.YtmbagpfmfiegkaaGreatAw
theorem OH:TI Tryz.prog 2=some ((.int .i64 0:Value),1,8):=by kernel_rfl
theorem LB:gT Tryz.prog 2=some false:=by kernel_rfl
theorem OQ:SE Tryz.prog 2=none:=by kernel_rfl
theorem Oz:UK Tryz.prog 2=some .i64:=by kernel_rfl
theorem OP:TI Tryz.prog 3=some ((.int .i64 0:Value),1,8):=by kernel_rfl
theorem Iq:gT Tryz.prog 3=some false:=by kernel_rfl
theorem OK:SE Tryz.prog 3=none:=by kernel_rfl
theorem ML:UK Tryz.prog 3=some .i64:=by kernel_rfl
theorem ON:TI Tryz.prog 4=some ((.bool false:Value),1,1):=by kernel_rfl
theorem Np:gT Tryz.prog 4=some false:=by kernel_rfl
theorem OS:Tryz.prog.underlying 4=some .bool:=by kernel_rfl
theorem OM:TI Tryz.prog 5=some ((.int .u8 0:Value),1,1):=by kernel_rfl
theorem vO:gT Tryz.prog 5=some false:=by kernel_rfl
theorem OU:SE Tryz.prog 5=none:=by kernel_rfl
theorem Oc:UK Tryz.prog 5=some .u8:=by kernel_rfl
theorem OO:TI Tryz.prog 9=some ((.string ⟨#[]⟩:Value),1,16):=by kernel_rfl
theorem Ma:gT Tryz.prog 9=some false:=by kernel_rfl
theorem OG:SE Tryz.prog 9=none:=by kernel_rfl
theorem OJ:MT Tryz.prog 9=none:=by kernel_rfl
theorem OB:Tryz.prog.underlying 9=some .string:=by kernel_rfl
theorem NH:TI Tryz.prog 22=some ((.slice none 0 0:Value),1,24):=by kernel_rfl
theorem JM:gT Tryz.prog 22=some false:=by kernel_rfl
theorem N6:SE Tryz.prog 22=some 5:=by kernel_rfl
theorem Kz:TI Tryz.prog 25=some ((.agg #[.int .i64 0,.int .i64 0,.string ⟨#[]⟩]:Value),3,32):=by kernel_rfl
theorem Hq:gT Tryz.prog 25=some true:=by kernel_rfl
theorem Ld:FO Tryz.prog 25 0=some (0,3):=by kernel_rfl
theorem KC:FO Tryz.prog 25 1=some (1,2):=by kernel_rfl
theorem KX:FO Tryz.prog 25 2=some (2,9):=by kernel_rfl
theorem Nb:SP Tryz.prog 25=some [(0,1),(1,1),(2,1)]:=by kernel_rfl
theorem M8:TI Tryz.prog 27=some ((.agg #[.int .i64 0,.int .i64 0,.int .i64 0,.int .i64 0,.string ⟨#[]⟩,.int .i64 0,.int .i64 0,.string ⟨#[]⟩]:Value),8,80):=by kernel_rfl
theorem LQ:gT Tryz.prog 27=some true:=by kernel_rfl
theorem KG:FO Tryz.prog 27 0=some (0,3):=by kernel_rfl
theorem Le:FO Tryz.prog 27 1=some (1,3):=by kernel_rfl
theorem KV:FO Tryz.prog 27 2=some (2,25):=by kernel_rfl
theorem JU:FO Tryz.prog 27 3=some (5,25):=by kernel_rfl
theorem Oh:SP Tryz.prog 27=some [(0,1),(1,1),(2,3),(5,3)]:=by kernel_rfl
theorem N5:TI Tryz.prog 28=some ((.slice none 0 0:Value),1,24):=by kernel_rfl
theorem Mt:gT Tryz.prog 28=some false:=by kernel_rfl
theorem No:SE Tryz.prog 28=some 4:=by kernel_rfl
theorem Nf:TI Tryz.prog 30=some ((.agg #[.int .i64 0,.int .i64 0,.int .i64 0,.int .i64 0,.int .i64 0,.int .i64 0,.string ⟨#[]⟩,.int .i64 0,.int .i64 0,.string ⟨#[]⟩,.slice none 0 0,.slice none 0 0]:Value),12,144):=by kernel_rfl
theorem Mw:gT Tryz.prog 30=some true:=by kernel_rfl
theorem Lb:FO Tryz.prog 30 0=some (0,3):=by kernel_rfl
theorem KO:FO Tryz.prog 30 1=some (1,3):=by kernel_rfl
theorem KY:FO Tryz.prog 30 2=some (2,27):=by kernel_rfl
theorem JY:FO Tryz.prog 30 3=some (10,28):=by kernel_rfl
theorem KK:FO Tryz.prog 30 4=some (11,22):=by kernel_rfl
theorem N7:SP Tryz.prog 30=some [(0,1),(1,1),(2,8),(10,1),(11,1)]:=by kernel_rfl
theorem Nh:TI Tryz.prog 31=some ((.int .i64 0:Value),1,8):=by kernel_rfl
theorem Ms:gT Tryz.prog 31=some false:=by kernel_rfl
theorem NN:isIface Tryz.prog 31=false:=by kernel_rfl
theorem Ny:TI Tryz.prog 34=some ((.agg #[.int .i64 0,.int .i64 0,.int .i64 0,.int .i64 0,.int .i64 0,.int .i64 0,.string ⟨#[]⟩,.int .i64 0,.int .i64 0,.string ⟨#[]⟩,.slice none 0 0,.slice none 0 0]:Value),12,144):=by kernel_rfl
theorem LU:gT Tryz.prog 34=some true:=by kernel_rfl
theorem JW:FO Tryz.prog 34 0=some (0,3):=by kernel_rfl
theorem KS:FO Tryz.prog 34 1=some (1,3):=by kernel_rfl
theorem KF:FO Tryz.prog 34 2=some (2,27):=by kernel_rfl
theorem KM:FO Tryz.prog 34 3=some (10,28):=by kernel_rfl
theorem JP:FO Tryz.prog 34 4=some (11,22):=by kernel_rfl
theorem Nm:SP Tryz.prog 34=some [(0,1),(1,1),(2,8),(10,1),(11,1)]:=by kernel_rfl
theorem N8:TI Tryz.prog 36=some ((.agg #[.int .i64 0,.int .i64 0,.int .i64 0,.int .i64 0,.int .i64 0,.int .i64 0,.string ⟨#[]⟩,.int .i64 0,.int .i64 0,.string ⟨#[]⟩,.slice none 0 0,.slice none 0 0,.slice none 0 0,.int .i64 0]:Value),14,176):=by kernel_rfl
theorem Ls:gT Tryz.prog 36=some true:=by kernel_rfl
theorem Ks:FO Tryz.prog 36 0=some (0,34):=by kernel_rfl
theorem KH:FO Tryz.prog 36 1=some (12,22):=by kernel_rfl
theorem KU:FO Tryz.prog 36 2=some (13,3):=by kernel_rfl
theorem NF:SP Tryz.prog 36=some [(0,12),(12,1),(13,1)]:=by kernel_rfl
theorem Ob:TI Tryz.prog 42=some ((.slice none 0 0:Value),1,24):=by kernel_rfl
theorem LL:gT Tryz.prog 42=some false:=by kernel_rfl
theorem Nx:SE Tryz.prog 42=some 25:=by kernel_rfl
theorem Na:TI Tryz.prog 44=some ((.int .u32 0:Value),1,4):=by kernel_rfl
theorem Lt:gT Tryz.prog 44=some false:=by kernel_rfl
theorem Og:SE Tryz.prog 44=none:=by kernel_rfl
theorem Om:UK Tryz.prog 44=some .u32:=by kernel_rfl
theorem NO:TI Tryz.prog 49=some ((.int .u64 0:Value),1,8):=by kernel_rfl
theorem Me:gT Tryz.prog 49=some false:=by kernel_rfl
theorem Ou:SE Tryz.prog 49=none:=by kernel_rfl
theorem NJ:UK Tryz.prog 49=some .u64:=by kernel_rfl
theorem NB:TI Tryz.prog 78=some ((.slice none 0 0:Value),1,24):=by kernel_rfl
theorem Mm:gT Tryz.prog 78=some false:=by kernel_rfl
theorem NM:SE Tryz.prog 78=some 5:=by kernel_rfl
theorem NY:TI Tryz.prog 83=some ((.agg #[.int .u8 0,.int .u8 0,.int .u8 0,.int .u8 0]:Value),4,4):=by kernel_rfl
theorem L8:gT Tryz.prog 83=some true:=by kernel_rfl
theorem Ns:SE Tryz.prog 83=none:=by kernel_rfl
theorem M6:AE Tryz.prog 83=some (4,5):=by kernel_rfl
theorem Ni:TI Tryz.prog 86=some ((.agg (Array.replicate 256 (.int .u32 0)):Value),256,1024):=by kernel_rfl
theorem Mq:gT Tryz.prog 86=some true:=by kernel_rfl
theorem Oq:SE Tryz.prog 86=none:=by kernel_rfl
theorem Ot:AE Tryz.prog 86=some (256,44):=by kernel_rfl
theorem M1:TI Tryz.prog 88=some ((.agg #[.int .i64 0,.int .i64 0,.int .i64 0,.int .i64 0]:Value),4,32):=by kernel_rfl
theorem Ol:SE Tryz.prog 88=none:=by kernel_rfl
theorem Nd:AE Tryz.prog 88=some (4,3):=by kernel_rfl
theorem N4:TI Tryz.prog 94=some ((.nilFunc:Value),1,8):=by kernel_rfl
theorem LD:gT Tryz.prog 94=some false:=by kernel_rfl
theorem M3:TI Tryz.prog 95=some ((.nilFunc:Value),1,8):=by kernel_rfl
theorem Mg:gT Tryz.prog 95=some false:=by kernel_rfl
theorem Nr:TI Tryz.prog 97=some ((.agg #[.nilFunc,.nilFunc]:Value),2,16):=by kernel_rfl
theorem J8:FO Tryz.prog 97 0=some (0,94):=by kernel_rfl
theorem K3:FO Tryz.prog 97 1=some (1,95):=by kernel_rfl
theorem Oo:SP Tryz.prog 97=some [(0,1),(1,1)]:=by kernel_rfl
theorem Oa:MT Tryz.prog 99=some (.i64,3,97):=by kernel_rfl
theorem LK:SE Tryz.prog 105=some 3:=by kernel_rfl
theorem Ly:SE Tryz.prog 121=none:=by kernel_rfl
theorem Md:UK Tryz.prog 121=some .u64:=by kernel_rfl
theorem LI:TI Tryz.prog 125=some ((.agg #[.slice none 0 0,.int .i64 0]:Value),2,32):=by kernel_rfl
theorem JD:FO Tryz.prog 125 0=some (0,22):=by kernel_rfl
theorem Jq:FO Tryz.prog 125 1=some (1,3):=by kernel_rfl
theorem My:SP Tryz.prog 125=some [(0,1),(1,1)]:=by kernel_rfl
theorem Lu:SE Tryz.prog 130=some 49:=by kernel_rfl
theorem LO:SE Tryz.prog 162=some 165:=by kernel_rfl
theorem L7:TI Tryz.prog 165=some ((.agg #[.int .i64 0,.int .i64 0,.int .i64 0,.string ⟨#[]⟩]:Value),4,40):=by kernel_rfl
theorem La:gT Tryz.prog 165=some true:=by kernel_rfl
theorem IJ:FO Tryz.prog 165 0=some (0,3):=by kernel_rfl
theorem IB:FO Tryz.prog 165 1=some (1,25):=by kernel_rfl
theorem L3:SP Tryz.prog 165=some [(0,1),(1,3)]:=by kernel_rfl
theorem Mc:TI Tryz.prog 192=some ((.agg #[.slice none 0 0,.int .i64 0]:Value),2,32):=by kernel_rfl
theorem Ji:FO Tryz.prog 192 0=some (0,22):=by kernel_rfl
theorem Jy:FO Tryz.prog 192 1=some (1,3):=by kernel_rfl
theorem LZ:SP Tryz.prog 192=some [(0,1),(1,1)]:=by kernel_rfl
theorem L4:SE Tryz.prog 209=some 216:=by kernel_rfl
theorem MJ:TI Tryz.prog 216=some ((.agg #[.int .i64 0,.int .i64 0,.int .i64 0,.string ⟨#[]⟩]:Value),4,40):=by kernel_rfl
theorem IS:FO Tryz.prog 216 0=some (0,3):=by kernel_rfl
theorem Iv:FO Tryz.prog 216 1=some (1,25):=by kernel_rfl
theorem Mu:SP Tryz.prog 216=some [(0,1),(1,3)]:=by kernel_rfl
theorem L5:SE Tryz.prog 222=none:=by kernel_rfl
theorem Mj:MT Tryz.prog 222=some (.u64,49,4):=by kernel_rfl
theorem mixed:Tryz.prog.follows .mixedOrders=true:=by kernel_rfl
attribute [go_sem] OH LB OQ Oz OP Iq OK ML ON Np OS OM vO OU Oc OO Ma OG OJ OB NH JM N6 Kz Hq Ld KC KX Nb M8 LQ KG Le KV JU Oh N5 Mt No Nf Mw Lb KO KY JY KK N7 Nh Ms NN Ny LU JW KS KF KM JP Nm N8 Ls Ks KH KU NF Ob LL Nx Na Lt Og Om NO Me Ou NJ NB Mm NM NY L8 Ns M6 Ni Mq Oq Ot M1 Ol Nd N4 LD M3 Mg Nr J8 K3 Oo Oa LK Ly Md LI JD Jq My Lu LO L7 La IJ IB L3 Mc Ji Jy LZ L4 MJ IS Iv Mu L5 Mj mixed
end Go.Proofs.YtmbagpfmfiegkaaGreat.K
namespace Go.Proofs.YtmbagpfmfiegkaaGreatAw
theorem I8(n:Nat)(s:Nat→AV)(d:Tmp)(v:AV)(t:Nat):cv n s (some d) v t=if t=d then(if d<n then v else .top)else s t:=rfl
theorem IW(n:Nat)(s:Nat→AV)(v:AV):cv n s none v=s:=rfl
theorem FJ(s:Nat→AV)(t:Tmp):ao s (.tmp t)=s t:=rfl
theorem Ax(s:Nat→AV)(v:Value):ao s (.const v)=cD v:=rfl
theorem B5(s:Nat→AV)(f:FuncId):ao s (.func f)= .fn f []:=rfl
theorem AL(k:IntKind)(n:Int):cD (.int k n)= .d (.v (.int k n)):=rfl
theorem yh(b:Bool):cD (.bool b)= .d (.v (.bool b)):=rfl
theorem uq(b:ByteArray):cD (.string b)= .d (.v (.string b)):=rfl
theorem wo(a:Option Addr)(n c:Nat):cD (.slice a n c)= .d (.v (.slice a n c)):=rfl
theorem sO(a:Option Addr):cD (.pointer a)= .d (.v (.pointer a)):=rfl
theorem Cd(cs:Array Value):cD (.agg cs)=if cs.all Value.oneCell' then .agg (cs.toList.map fun c=> .d (.v c))else .top:=rfl
theorem xI(t:TypeId)(v:Value):cD (.iface t v)= .d (.v (.iface t v)):=rfl
theorem qR:cD .nilIface= .d (.v .nilIface):=rfl
theorem tp:cD .nilFunc= .d (.v .nilFunc):=rfl
theorem Gh(args:List AV)(t:Nat):kC args t=args.getD t .top:=rfl
theorem G5(x:Value):closed (.d (.v x))=some x:=rfl
theorem yO(nn:Bool)(es:List (List D)):closed (.d (.list nn es))=none:=rfl
theorem AT(id ver i j:Nat):closed (.ptr id ver i j)=none:=rfl
theorem BL(cs:List AV):closed (.agg cs)=(jj cs).map fun l=> .agg l.toArray:=rfl
theorem F0(x:D):cellsOf (.d x)=some [.d x]:=rfl
theorem CM(id ver off len:Nat):cellsOf (.sl id ver off len)=some [.sl id ver off len]:=rfl
theorem yb(cs:List AV):cellsOf (.agg cs)=if cs.all AV.one then some cs else none:=rfl
theorem AZ(f:FuncId)(cs:List AV):cellsOf (.fn f cs)=some [.fn f cs]:=rfl
theorem Dp(H T:aa)(k:Nat):(H++T)[H.length+k]?=T[k]?:=by rw[List.getElem?_append_right (by omega)];congr 1;omega
theorem GI(H T:aa):(H++T)[H.length]?=T[0]?:=Dp H T 0
theorem CX(H T:aa)(k:Nat)(o:aT):(H++T).set (H.length+k) o=H++T.set k o:=by
 rw[List.set_append_right _ _ (by omega)];congr 2;omega
theorem F6(H T:aa)(o:aT):(H++T).set H.length o=H++T.set 0 o:=CX H T 0 o
theorem FL(H:aa)(nn:Bool)(es:List (List D)):tj H (.d (.list nn es))=some es.length:=rfl
theorem BM(H:aa)(a:Option Addr)(n c:Nat):tj H (.d (.v (.slice a n c)))=some n:=rfl
theorem IY(H:aa)(id ver off len:Nat):tj H (.sl id ver off len)=match H[id]? with|some ob=>if ob.ver=ver then some len else none|none=>none:=rfl
theorem Fs(H:aa)(nn:Bool)(es:List (List D)):ko H (.d (.list nn es))=some es:=rfl
theorem AS(H:aa)(k:Nat)(i:Int)(nn:Bool)(es:List (List D)):jO H k i (.d (.list nn es))=if 0≤i then(es[i.toNat]?).bind fun e=>if e.length=k then some (.dt e)else none else none:=rfl
theorem B4(H:aa)(n:Nat)(cs:List D):gD H n (.dt cs)=if n≤cs.length then some ((cs.take n).map .d)else none:=rfl
theorem Fh(H:aa)(n id ver i j:Nat):gD H n (.ptr id ver i j)=ah H id ver i j n:=rfl
theorem CB(H:aa)(cs:List AV)(id ver i j:Nat):sd H cs (.ptr id ver i j)=au H id ver i j cs:=rfl
theorem Ei(off id ver i j:Nat):jA off (.ptr id ver i j)=some (.ptr id ver i (j+off)):=rfl
theorem AH(off:Nat)(cs:List D):jA off (.dt cs)=if off≤cs.length then some (.dt (cs.drop off))else none:=rfl
theorem uP(H:aa)(id ver i j:Nat):fresh H (.ptr id ver i j)=match H[id]? with|some o=>o.ver==ver&&o.live|none=>false:=rfl
theorem BT(H:aa)(cs:List D):fresh H (.dt cs)=true:=rfl
theorem Hu:pz []=some []:=rfl
theorem Fy(x:AV)(xs:List AV):pz (x::xs)=match x.toD?,pz xs with|some y,some ys=>some (y::ys)|_,_=>none:=rfl
theorem LS(x:D):(AV.d x).toD?=some x:=rfl
theorem DI(place:Nat→Option (Nat×Nat))(cells:List AV):gw place cells []=some cells:=rfl
theorem B6(place:Nat→Option (Nat×Nat))(cells:List AV)(i:Nat)(x:AV)(rest:List (Nat×AV)):gw place cells ((i,x)::rest)=match place i,cellsOf x with
  |some (off,size),some cs=>if cs.length=size∧off+size≤cells.length then gw place (gX cells off cs) rest else none
  |_,_=>none:=rfl
theorem ni(H:aa)(o:aT):(H++[o])[H.length]?=some o:=by simp
def nf{α:Sort _}(x:α):α:=x
theorem H8{α:Sort _}(x:α):nf x=x:=rfl
def ob{α:Type}(x:Option α)(K:α→Prop):Prop:=match x with|some a=>K a|none=>False
theorem aV{α:Type}(a:α)(K:α→Prop):ob (some a) K=K a:=rfl
theorem Hl{α:Type}{x y:Option α}{K:α→Prop}(h:nf x=y):ob x K=ob y K:=by rw[←h];rfl
def oy{α:Type}(x:Option α)(K:α→Prop)(L:Prop):Prop:=match x with|some a=>K a|none=>L
theorem gA{α:Type}(a:α)(K:α→Prop)(L:Prop):oy (some a) K L=K a:=rfl
theorem gu{α:Type}(K:α→Prop)(L:Prop):oy none K L=L:=rfl
theorem AU{α:Type}{x y:Option α}{K:α→Prop}{L:Prop}(h:nf x=y):oy x K L=oy y K L:=by rw[←h];rfl
def qT(b:Bool)(A B:Prop):Prop:=if b=true then A else B
theorem u4(A B:Prop):qT true A B=A:=by simp[qT]
theorem jF(A B:Prop):qT false A B=B:=by simp[qT]
theorem BH{b c:Bool}{A B:Prop}(h:nf b=c):qT b A B=qT c A B:=by rw[←h];rfl
def NT:AV→Option Bool
 | .d (.v (.bool b))=>some b
 |_=>none
theorem Hf(b:Bool):NT (.d (.v (.bool b)))=some b:=rfl
def Ow:AV→Option Int
 | .d (.v (.int _ i))=>some i
 |_=>none
theorem Jv(k:IntKind)(i:Int):Ow (.d (.v (.int k i)))=some i:=rfl
def Nz:AV→Option (FuncId×List AV)
 | .fn f cs=>some (f,cs)
 |_=>none
def oc(x:AV)(A:FuncId→List AV→Prop)(B:Nat→Prop):Prop:=match x with
 | .fn f cs=>A f cs
 | .k8 id=>B id
 |_=>False
theorem LR(f:FuncId)(cs:List AV)(A:FuncId→List AV→Prop)(B:Nat→Prop):oc (.fn f cs) A B=A f cs:=rfl
theorem Ke(id:Nat)(A:FuncId→List AV→Prop)(B:Nat→Prop):oc (.k8 id) A B=B id:=rfl
@[congr] theorem Mz {x y:AV} {A:FuncId→List AV→Prop} {B:Nat→Prop} (h:nf x=y):oc x A B=oc y A B:=by rw[←h];rfl
theorem J3(f:FuncId)(cs:List AV):Nz (.fn f cs)=some (f,cs):=rfl
def Ox:AV→Option (List AV)
 | .bz cs=>some cs
 |_=>none
theorem De(cs:List AV):Ox (.bz cs)=some cs:=rfl
def G6:Option Value→Option ByteArray
 |some (.string b)=>some b
 |_=>none
theorem mj(b:ByteArray):G6 (some (.string b))=some b:=rfl
def A3:Option Value→Option Int
 |some (.int _ i)=>some i
 |_=>none
theorem sJ(k:IntKind)(i:Int):A3 (some (.int k i))=some i:=rfl
def Oe{α:Type}:Option (List α)→Option α
 |some [c]=>some c
 |_=>none
theorem Jo{α:Type}(c:α):Oe (some [c])=some c:=rfl
theorem Kr:(true==false)=false:=rfl
theorem Kx:(false==true)=false:=rfl
attribute [go_sem] H8 Kr Kx aV gA gu u4 jF Hf Jv J3 LR Ke De mj sJ Jo
def iZ(P:Program)(t:TypeId):Bool:=match TI P t with|some (z,k,_)=>decide (0<k)&&z.cells.size==k&&z.cells.all Value.oneCell'|none=>false
theorem rp{P:Program}{t:TypeId}{z:Value}{k b:Nat}(h:TI P t=some (z,k,b)):(iZ P t=true)=(0<k∧z.cells.size=k∧z.cells.all Value.oneCell'=true):=by
 simp[iZ,h,and_assoc]
section
variable (P:Program) (hint:Nat→Bool) (n:Nat) (H0:aa)
def LW(ops:Array Oper)(Q:bH)(rest:List Oper)(s:Nat→AV)(d:Option Tmp):AV→aa→Prop:=fun r H'=>bK P hint n ops Q rest (cv n s d r) H'
def Ge(Q:bH)(s:Nat→AV):Value→aa→Prop:=fun v H'=>Q (.panic v) s H'
def lI(y:Code)(Q:bH):bH:=fun e s' H'=>match e with| .normal=>(if fu hint y=true then ∃s'' H'',ay H0 s' H' s'' H''∧dQ P hint n H0 y Q s'' H'' else dQ P hint n H0 y Q s' H')|e=>Q e s' H'
def en(id:Nat)(Q:bH):bH:=fun e s' H'=>match e with| .exit i=>if i=id then Q .normal s' H' else Q (.exit i) s' H'|e=>Q e s' H'
def gU(R:(Nat→AV)→aa→Prop)(Q:bH):bH:=fun e s' H'=>match e with| .normal=>R s' H'|e=>Q e s' H'
def Hy(K:AV→aa→Prop)(H:aa):Value→Prop:=fun r=>K (cD r) H
theorem I2(ops:Array Oper)(Q:bH)(rest:List Oper)(s:Nat→AV)(d:Option Tmp)(r:AV)(H:aa):LW P hint n ops Q rest s d r H=bK P hint n ops Q rest (cv n s d r) H:=rfl
theorem Hh(Q:bH)(s:Nat→AV)(v:Value)(H:aa):Ge Q s v H=Q (.panic v) s H:=rfl
theorem er(y:Code)(Q:bH)(s:Nat→AV)(H:aa):lI P hint n H0 y Q .normal s H=qT (fu hint y) (∃s'' H'',ay H0 s H s'' H''∧dQ P hint n H0 y Q s'' H'') (dQ P hint n H0 y Q s H):=rfl
theorem BZ(x y:Code):fu hint (.seq x y)=fu hint x:=rfl
theorem tR(id:Nat)(ops:Array Oper)(b:Bool):fu hint (.region id ops b)=hint (id+1000000):=rfl
theorem yV(c:Operand)(x y:Code):fu hint (.cond c x y)=false:=rfl
theorem wP(id:Nat)(x:Code):fu hint (.block id x)=false:=rfl
theorem CC:fu hint .ret=false:=rfl
theorem y5(id:Nat):fu hint (.exit id)=false:=rfl
attribute [go_sem] BZ tR yV wP CC y5
theorem uV(y:Code)(Q:bH)(i:Nat)(s:Nat→AV)(H:aa):lI P hint n H0 y Q (.exit i) s H=Q (.exit i) s H:=rfl
theorem HX(y:Code)(Q:bH)(s:Nat→AV)(H:aa):lI P hint n H0 y Q .ret s H=Q .ret s H:=rfl
theorem Cs(y:Code)(Q:bH)(v:Value)(s:Nat→AV)(H:aa):lI P hint n H0 y Q (.panic v) s H=Q (.panic v) s H:=rfl
theorem tO(id:Nat)(Q:bH)(s:Nat→AV)(H:aa):en id Q .normal s H=Q .normal s H:=rfl
theorem jN(id:Nat)(Q:bH)(i:Nat)(s:Nat→AV)(H:aa):en id Q (.exit i) s H=if i=id then Q .normal s H else Q (.exit i) s H:=rfl
theorem Bs(id:Nat)(Q:bH)(s:Nat→AV)(H:aa):en id Q .ret s H=Q .ret s H:=rfl
theorem wJ(id:Nat)(Q:bH)(v:Value)(s:Nat→AV)(H:aa):en id Q (.panic v) s H=Q (.panic v) s H:=rfl
theorem vI(R:(Nat→AV)→aa→Prop)(Q:bH)(s:Nat→AV)(H:aa):gU R Q .normal s H=R s H:=rfl
theorem Cl(R:(Nat→AV)→aa→Prop)(Q:bH)(i:Nat)(s:Nat→AV)(H:aa):gU R Q (.exit i) s H=Q (.exit i) s H:=rfl
theorem EH(R:(Nat→AV)→aa→Prop)(Q:bH)(s:Nat→AV)(H:aa):gU R Q .ret s H=Q .ret s H:=rfl
theorem yN(R:(Nat→AV)→aa→Prop)(Q:bH)(v:Value)(s:Nat→AV)(H:aa):gU R Q (.panic v) s H=Q (.panic v) s H:=rfl
theorem HZ(K:AV→aa→Prop)(H:aa)(r:Value):Hy K H r=K (cD r) H:=rfl
theorem Ar(Q:bH)(s:Nat→AV)(H:aa):dQ P hint n H0 .skip Q s H=Q .normal s H:=rfl
theorem CE(id:Nat)(ops:Array Oper)(Q:bH)(s:Nat→AV)(H:aa):dQ P hint n H0 (.region id ops false) Q s H=bK P hint n ops Q ops.toList s H:=rfl
theorem iT(x y:Code)(Q:bH)(s:Nat→AV)(H:aa):dQ P hint n H0 (.seq x y) Q s H=dQ P hint n H0 x (lI P hint n H0 y Q) s H:=rfl
theorem rP(c:Operand)(x y:Code)(Q:bH)(s:Nat→AV)(H:aa):dQ P hint n H0 (.cond c x y) Q s H=(match ao s c with| .d (.v (.bool b))=>if b=true then dQ P hint n H0 x Q s H else dQ P hint n H0 y Q s H|_=>False):=rfl
theorem uz(id:Nat)(x:Code)(Q:bH)(s:Nat→AV)(H:aa):dQ P hint n H0 (.block id x) Q s H=dQ P hint n H0 x (en id Q) s H:=rfl
theorem y7(id:Nat)(Q:bH)(s:Nat→AV)(H:aa):dQ P hint n H0 (.exit id) Q s H=Q (.exit id) s H:=rfl
theorem II(Q:bH)(s:Nat→AV)(H:aa):dQ P hint n H0 .ret Q s H=Q .ret s H:=rfl
theorem cl{α:Type}(I:α→(Nat→AV)→aa→Prop)(μ:α→Nat)(x0:α){body:Code}{Q:bH}{s s':Nat→AV}{H H':aa}(hW:ay H0 s H s' H')(h0:I x0 s' H')
  (step:∀x s H,I x s H→dQ P hint n H0 body (gU (fun s' H'=>∃s'' H'' y,ay H0 s' H' s'' H''∧I y s'' H''∧μ y<μ x) Q) s H):dQ P hint n H0 (.loop body) Q s H:=by
 refine⟨fun m s H=>∃x,μ x=m∧I x s H∧dQ P hint n H0 body (gU (fun s' H'=>∃s'' H'' y,ay H0 s' H' s'' H''∧I y s'' H''∧μ y<μ x) Q) s H,μ x0,⟨s',H',hW,x0,rfl,h0,step x0 s' H' h0⟩,?_⟩
 rintro m s H ⟨x,rfl,hI,h⟩
 have e:(gU (fun s' H'=>∃s'' H'' y,ay H0 s' H' s'' H''∧I y s'' H''∧μ y<μ x) Q:bH)=fun e s' H'=>match e with
   | .normal=>∃s'' H'' m',ay H0 s' H' s'' H''∧(∃x,μ x=m'∧I x s'' H''∧dQ P hint n H0 body (gU (fun s' H'=>∃s'' H'' y,ay H0 s' H' s'' H''∧I y s'' H''∧μ y<μ x) Q) s'' H'')∧m'<μ x
   |e=>Q e s' H':=by
  funext e s' H'
  cases e with
  |normal=>
   refine propext ⟨?_,?_⟩
   ·rintro⟨s'',H'',y,hW,hI,hlt⟩
    exact⟨s'',H'',μ y,hW,⟨y,rfl,hI,step y s'' H'' hI⟩,hlt⟩
   ·rintro⟨s'',H'',m',hW,⟨y,rfl,hI,_⟩,hlt⟩
    exact⟨s'',H'',y,hW,hI,hlt⟩
  |_=>rfl
 rw[e]at h
 exact h
theorem Ag(ops:Array Oper)(Q:bH)(s:Nat→AV)(H:aa):bK P hint n ops Q [] s H=Q .normal s H:=rfl
theorem vP(ops:Array Oper)(Q:bH)(d:Option Tmp)(op:Op)(ty:TypeId)(p:String)(af:Array Edge)(rest:List Oper)(s:Nat→AV)(H:aa):
  bK P hint n ops Q (⟨d,op,ty,p,af,none⟩::rest) s H=aN P hint s H ⟨d,op,ty,p,af,none⟩ (LW P hint n ops Q rest s d) (Ge Q s):=rfl
theorem uo(ops:Array Oper)(Q:bH)(d:Option Tmp)(op:Op)(ty:TypeId)(p:String)(af:Array Edge)(j:Nat)(b:Bool)(rest:List Oper)(s:Nat→AV)(H:aa):
  bK P hint n ops Q (⟨d,op,ty,p,af,some (j,b)⟩::rest) s H=ob (iP ops s n j b) fun b'=>qT b' (aN P hint s H ⟨d,op,ty,p,af,some (j,b)⟩ (LW P hint n ops Q rest s d) (Ge Q s)) (bK P hint n ops Q rest (cv n s d (.bz [])) H):=by
 simp only[bK,ek]
 cases iP ops s n j b with
 |none=>rfl
 |some b'=>cases b'<;>rfl
theorem F4(w b:Bool):MF w (.d (.v (.bool b)))=some (b==w):=rfl
theorem Jk(w:Bool):MF w (.bz [])=some false:=rfl
theorem DL(ops:Array Oper)(s:Nat→AV)(j:Nat)(w:Bool):iP ops s n j w=((ops[j]?).bind (·.dst)).bind fun d=>if d<n then MF w (s d)else none:=by
 unfold iP
 cases(ops[j]?).bind (·.dst)with
 |none=>rfl
 |some d=>rfl
end
section
variable (P:Program) (hint:Nat→Bool) (s:Nat→AV) (H:aa) (d:Option Tmp) (ty:TypeId) (p:String) (af:Array Edge) (g:Option (Nat×Bool)) (K:AV→aa→Prop) (KP:Value→aa→Prop)
def sH(hint:Nat→Bool)(d:Option Tmp):Bool:=match d with|some d=>hint d|none=>false
theorem IP(x:Operand):aN P hint s H ⟨d,.move x,ty,p,af,g⟩ K KP=K (ao s x) H:=rfl
theorem EL(x:Operand):aN P hint s H ⟨d,.assign x,ty,p,af,g⟩ K KP=K (ao s x) H:=rfl
theorem Iy(c x y:Operand):aN P hint s H ⟨d,.pick c x y,ty,p,af,g⟩ K KP=ob (NT (ao s c)) fun t=>K (if t=true then ao s x else ao s y) H:=by
 simp only[aN,iQ]
 cases ao s c<;>first|rfl|(rename_i u;cases u<;>first|rfl|(rename_i v;cases v<;>rfl))
def Lx(e:TypeId)(z:Value)(k:Nat)(H:aa)(K:AV→aa→Prop):Prop:=∃id e',H[id]?=some (.arr e' k 0 [])∧K (.ptr id 1 0 0) (H.set id (.box e k 1 1 (cL z.cells)))
theorem Aj(e:TypeId):aN P hint s H ⟨d,.alloc e,ty,p,af,g⟩ K KP=ob (TI P e) fun z=>iZ P e=true∧qT (sH hint d) (Lx e z.1 z.2.1 H K) (K (.ptr H.length 0 0 0) (H++[.box e z.2.1 0 1 (cL z.1.cells)])):=by
 simp only[aN,iQ]
 rcases h:TI P e with _|⟨z,k,b⟩
 ·rfl
 ·simp only[aV,rp h]
  cases d with
  |none=>rfl
  |some d=>
   simp only[sH]
   by_cases hh:hint d=true
   ·rw[if_pos hh,hh];rfl
   ·rw[if_neg hh,show hint d=false by simpa using hh];rfl
theorem Kg(e:TypeId)(x:Operand):aN P hint s H ⟨d,.box e x,ty,p,af,g⟩ K KP=ob (cellsOf (ao s x)) fun cs=>0<cs.length∧K (.ptr H.length 0 0 0) (H++[.box e cs.length 0 1 cs]):=by
 simp only[aN,iQ]
 cases cellsOf (ao s x)<;>rfl
theorem F9(t:TypeId)(ps:Array (Nat×Operand)):aN P hint s H ⟨d,.build t ps,ty,p,af,g⟩ K KP=ob (TI P t) fun z=>z.1.cells.all Value.oneCell'=true∧oy (SP P t) (fun places=>ob (gw (places.toArray[·]?) (cL z.1.cells) (dz s ps)) fun out=>K (.agg out) H)
  (ob (AE P t) fun ne=>ob (TI P ne.2) fun ze=>ob (gw (fun i=>some (i* ze.2.1,ze.2.1)) (cL z.1.cells) (dz s ps)) fun out=>K (.agg out) H):=by
 simp only[aN,iQ]
 rcases TI P t with _|⟨z,k,b⟩
 ·rfl
 ·simp only[aV]
  congr 1
  cases SP P t with
  |some pl=>simp only[gA];cases gw (pl.toArray[·]?) (cL z.cells) (dz s ps)<;>rfl
  |none=>
   simp only[gu]
   rcases AE P t with _|⟨m,e⟩
   ·rfl
   ·simp only[aV]
    rcases TI P e with _|⟨ze,ke,be⟩
    ·rfl
    ·simp only[aV];cases gw (fun i=>some (i* ke,ke)) (cL z.cells) (dz s ps)<;>rfl
theorem um(t:TypeId)(m:Nat)(ps:Array (Nat×Operand)):aN P hint s H ⟨d,.buildSlice t (m+1) ps,ty,p,af,g⟩ K KP=ob (SE P t) fun e=>ob (TI P e) fun z=>
  (iZ P e=true∧(m+1)* z.2.1≤16777216)∧ob (gw (fun i=>some (i* z.2.1,z.2.1)) (j5 z.1 ((m+1)* z.2.1)) (dz s ps)) fun out=>ob (pz out) fun ds=>
   qT (sH hint d) (K (.sl H.length 0 0 (m+1)) (H++[.arr e z.2.1 0 (chunk (m+1) z.2.1 ds)])) (K (.d (.list true (chunk (m+1) z.2.1 ds))) H):=by
 simp only[aN,iQ]
 cases SE P t with
 |none=>rfl
 |some e=>
  simp only[aV]
  rcases h:TI P e with _|⟨z,k,b⟩
  ·rfl
  ·simp only[aV,Nat.add_one_ne_zero,if_false]
   have hc:(z.cells.size=k∧z.cells.all Value.oneCell'=true∧(m+1)* k≤16777216∧0<(m+1)* k)=(iZ P e=true∧(m+1)* k≤16777216):=by
    rw[rp h]
    refine propext ⟨fun⟨h1,h2,h3,h4⟩=>⟨⟨Nat.pos_of_mul_pos_left h4,h1,h2⟩,h3⟩,fun⟨⟨h0,h1,h2⟩,h3⟩=>⟨h1,h2,h3,Nat.mul_pos (Nat.succ_pos m) h0⟩⟩
   rw[hc]
   congr 1
   cases gw (fun i=>some (i* k,k)) (j5 z ((m+1)* k)) (dz s ps)with
   |none=>rfl
   |some out=>
    simp only[aV]
    cases pz out with
    |none=>rfl
    |some ds=>rfl
theorem sv(t:TypeId)(ps:Array (Nat×Operand)):aN P hint s H ⟨d,.buildSlice t 0 ps,ty,p,af,g⟩ K KP=ob (SE P t) fun e=>ob (TI P e) fun _=>ps=#[]∧K .eS H:=by
 simp only[aN,iQ]
 cases SE P t with
 |none=>rfl
 |some e=>
  simp only[aV]
  rcases TI P e with _|⟨z,k,b⟩<;>simp[ob]
theorem I3(t:TypeId)(x:Operand):aN P hint s H ⟨d,.load t x,ty,p,af,g⟩ K KP=ob (gT P t) fun b=>qT b (ob (TI P t) fun z=>ob (gD H z.2.1 (ao s x)) fun cs=>K (.agg cs) H) (ob (Oe (gD H 1 (ao s x))) fun c=>K c H):=by
 simp only[aN,iQ]
 cases gT P t with
 |none=>rfl
 |some b=>
  cases b with
  |true=>
   simp only[aV,u4]
   rcases TI P t with _|⟨z,k,b⟩
   ·rfl
   ·simp only[aV];cases gD H k (ao s x)<;>rfl
  |false=>
   simp only[aV,jF]
   cases gD H 1 (ao s x)with
   |none=>rfl
   |some cs=>rcases cs with _|⟨c,_|⟨c',l⟩⟩<;>rfl
theorem Hg(t:TypeId)(x y:Operand):aN P hint s H ⟨d,.store t x y,ty,p,af,g⟩ K KP=ob (TI P t) fun z=>ob (cellsOf (ao s y)) fun cs=>cs.length=z.2.1∧ob (sd H cs (ao s x)) fun H'=>K .top H':=by
 simp only[aN,iQ]
 rcases TI P t with _|⟨z,k,b⟩
 ·rfl
 ·simp only[aV]
  cases cellsOf (ao s y)with
  |none=>rfl
  |some cs=>simp only[aV];congr 1;cases sd H cs (ao s x)<;>rfl
theorem xA(t:TypeId)(x:Operand)(f:Nat):aN P hint s H ⟨d,.fieldAddr t x f,ty,p,af,g⟩ K KP=ob (FO P t f) fun o=>ob (TI P o.2) fun z=>0<z.2.1∧fresh H (ao s x)=true∧ob (jA o.1 (ao s x)) fun y=>K y H:=by
 simp only[aN,iQ]
 rcases FO P t f with _|⟨off,ft⟩
 ·rfl
 ·simp only[aV]
  rcases TI P ft with _|⟨z,k,b⟩
  ·rfl
  ·simp only[aV];congr 2;cases jA off (ao s x)<;>rfl
theorem wT(t:TypeId)(x i:Operand):aN P hint s H ⟨d,.indexAddr t x i,ty,p,af,g⟩ K KP=ob (Ow (ao s i)) fun i=>oy (SE P t) (fun e=>ob (TI P e) fun z=>ob (jO H z.2.1 i (ao s x)) fun y=>K y H)
  (ob (AE P t) fun ne=>ob (TI P ne.2) fun z=>0≤i∧i<ne.1∧fresh H (ao s x)=true∧ob (jA (i.toNat* z.2.1) (ao s x)) fun y=>K y H):=by
 have main:∀n:Int,(match SE P t with
   |some e=>(match TI P e with|some (_,k,_)=>(match jO H k n (ao s x)with|some y=>K y H|none=>False)|none=>False)
   |none=>(match AE P t with
    |some (m,e)=>(match TI P e with|some (_,k,_)=>0≤n∧n<m∧fresh H (ao s x)=true∧(match jA (n.toNat* k) (ao s x)with|some y=>K y H|none=>False)|none=>False)
    |none=>False))=oy (SE P t) (fun e=>ob (TI P e) fun z=>ob (jO H z.2.1 n (ao s x)) fun y=>K y H)
  (ob (AE P t) fun ne=>ob (TI P ne.2) fun z=>0≤n∧n<ne.1∧fresh H (ao s x)=true∧ob (jA (n.toNat* z.2.1) (ao s x)) fun y=>K y H):=by
  intro n
  cases SE P t with
  |some e=>
   simp only[gA]
   rcases TI P e with _|⟨z,k,b⟩
   ·rfl
   ·simp only[aV];cases jO H k n (ao s x)<;>rfl
  |none=>
   simp only[gu]
   rcases AE P t with _|⟨m,e⟩
   ·rfl
   ·simp only[aV]
    rcases TI P e with _|⟨z,k,b⟩
    ·rfl
    ·simp only[aV];congr 3;cases jA (n.toNat* k) (ao s x)<;>rfl
 simp only[aN,iQ]
 cases ao s i<;>first|rfl|skip
 rename_i u
 cases u<;>first|rfl|skip
 rename_i v
 cases v<;>first|rfl|exact main _
def LN{α β:Type}(x:Option α)(y:Option β)(F:α→β→Prop)(L:Prop):Prop:=match x,y with|some a,some b=>F a b|_,_=>L
theorem Hm{α β:Type}(a:α)(b:β)(F:α→β→Prop)(L:Prop):LN (some a) (some b) F L=F a b:=rfl
theorem DN{α β:Type}(y:Option β)(F:α→β→Prop)(L:Prop):LN none y F L=L:=rfl
theorem FF{α β:Type}{x x':Option α}{y y':Option β}{F:α→β→Prop}{L:Prop}(g:nf x=x')(h:nf y=y'):LN x y F L=LN x' y' F L:=by rw[←g,←h];rfl
attribute [go_sem] Hm DN
theorem Kw(op:BinOp)(t:TypeId)(x y:Operand)(t':TypeId):aN P hint s H ⟨d,.binOp op t x y t',ty,p,af,g⟩ K KP=LN (closed (ao s x)) (closed (ao s y)) (fun u v=>dE P op t u v (Hy K H)) (nN P H op t (ao s x) (ao s y)=true∧K (.d (.v (.bool (r7 op)))) H):=by
 simp only[aN,iQ]
 cases closed (ao s x)with
 |none=>rfl
 |some u=>cases closed (ao s y)<;>rfl
theorem Mh(op:UnOp)(t:TypeId)(x:Operand):aN P hint s H ⟨d,.unOp op t x,ty,p,af,g⟩ K KP=ob (closed (ao s x)) fun u=>FK op u (Hy K H):=by
 simp only[aN,iQ]
 cases closed (ao s x)<;>rfl
def Kp:AV→Option (List (List D))
 | .d (.list _ es)=>some es
 |_=>none
theorem pI(nn:Bool)(es:List (List D)):Kp (.d (.list nn es))=some es:=rfl
theorem Cy(a b:TypeId)(x:Operand):aN P hint s H ⟨d,.convert a b x,ty,p,af,g⟩ K KP=oy (SE P a) (fun e=>UK P e=some .u8∧P.underlying b=some .string∧ob (Kp (ao s x)) fun es=>ob (iu es) fun ns=>K (.d (.v (.string (gP ns)))) H)
  (ob (A3 (closed (ao s x))) fun n=>ob (UK P a) fun _=>ob (UK P b) fun k=>K (.d (.v (.int k (k.wrap n)))) H):=by
 have main:∀n:Int,(match UK P a,UK P b with|some _,some k=>K (.d (.v (.int k (k.wrap n)))) H|_,_=>False)=ob (UK P a) fun _=>ob (UK P b) fun k=>K (.d (.v (.int k (k.wrap n)))) H:=by
  intro n
  cases UK P a with
  |none=>rfl
  |some _=>simp only[aV];cases UK P b<;>rfl
 simp only[aN,iQ]
 cases SE P a with
 |some e=>
  simp only[gA]
  congr 2
  cases ao s x<;>first|rfl|(rename_i u;cases u<;>first|rfl|(rename_i es;simp only[pI,aV];cases iu es<;>rfl))
 |none=>
  simp only[gu]
  cases closed (ao s x)with
  |none=>rfl
  |some v=>cases v<;>first|rfl|exact main _
theorem Co(x:Operand)(i:Nat):aN P hint s H ⟨d,.extract x i,ty,p,af,g⟩ K KP=ob (Ox (ao s x)) fun cs=>ob cs[i]? fun c=>K c H:=by
 simp only[aN,iQ]
 cases ao s x<;>first|rfl|skip
 rename_i cs
 simp only[De,aV]
 cases cs[i]?<;>rfl
theorem zM(f:FuncId)(x y:Array Operand):aN P hint s H ⟨d,.makeFunc (.func f) x y,ty,p,af,g⟩ K KP=(x=#[]∧K (.fn f (y.toList.map (ao s))) H):=rfl
theorem x5(x:Operand):aN P hint s H ⟨d,.nilCheck x,ty,p,af,g⟩ K KP=(xr H (ao s x)=true∧K (ao s x) H):=rfl
theorem po(t:TypeId)(x:Operand):aN P hint s H ⟨d,.makeInterface t x,ty,p,af,g⟩ K KP=ob (closed (ao s x)) fun u=>isIface P t=false∧K (.d (.v (.iface t u))) H:=by
 simp only[aN,iQ]
 cases closed (ao s x)<;>rfl
def D6:AV→Option Nat
 | .mp id=>some id
 |_=>none
theorem oq(id:Nat):D6 (.mp id)=some id:=rfl
def yi:Option aT→Option (IntKind×List (Int×AV))
 |some (.mp kk es)=>some (kk,es)
 |_=>none
theorem nX(kk:IntKind)(es:List (Int×AV)):yi (some (.mp kk es))=some (kk,es):=rfl
def DD:Option Value→Option (IntKind×Int)
 |some (.int k i)=>some (k,i)
 |_=>none
theorem tv(k:IntKind)(i:Int):DD (some (.int k i))=some (k,i):=rfl
attribute [go_sem] oq nX tv
theorem KD(x:Operand)(t:TypeId)(ts:Array TypeId)(h:ts.toList=[t]):aN P hint s H ⟨d,.call ⟨.builtin .len,#[x],ts⟩,ty,p,af,g⟩ K KP=oy (SE P t) (fun _=>ob (tj H (ao s x)) fun n=>K (.d (.v (.int .i64 n))) H)
  (oy (MT P t) (fun m=>ob (D6 (ao s x)) fun id=>ob (yi H[id]?) fun o=>o.1=m.1∧K (.d (.v (.int .i64 o.2.length))) H)
  (P.underlying t=some .string∧ob (G6 (closed (ao s x))) fun b=>K (.d (.v (.int .i64 b.size))) H)):=by
 simp only[aN,df,h]
 cases SE P t with
 |some e=>simp only[gA];cases tj H (ao s x)<;>rfl
 |none=>
  simp only[gu]
  rcases MT P t with _|⟨kk,kt,e⟩
  ·simp only[gu]
   congr 1
   cases closed (ao s x)with
   |none=>rfl
   |some v=>cases v<;>rfl
  ·simp only[gA]
   cases ao s x with
   |mp id=>
    simp only[oq,aV]
    rcases H[id]? with _|o
    ·rfl
    ·cases o<;>rfl
   |_=>rfl
theorem Jn(x:Operand)(t:TypeId):aN P hint s H ⟨d,.call ⟨.builtin .len,#[x],#[t]⟩,ty,p,af,g⟩ K KP=oy (SE P t) (fun _=>ob (tj H (ao s x)) fun n=>K (.d (.v (.int .i64 n))) H)
  (oy (MT P t) (fun m=>ob (D6 (ao s x)) fun id=>ob (yi H[id]?) fun o=>o.1=m.1∧K (.d (.v (.int .i64 o.2.length))) H)
  (P.underlying t=some .string∧ob (G6 (closed (ao s x))) fun b=>K (.d (.v (.int .i64 b.size))) H)):=KD P hint s H d ty p af g K KP x t #[t] rfl
theorem Lc(x:Operand)(xs:List Operand)(ts:Array TypeId):aN P hint s H ⟨d,.call ⟨.builtin .min,⟨x::xs⟩,ts⟩,ty,p,af,g⟩ K KP=ob (DD (closed (ao s x))) fun n=>ob (dy s n.1 xs) fun ns=>K (.d (.v (.int n.1 (ns.foldl min n.2)))) H:=by
 simp only[aN,df]
 cases closed (ao s x)with
 |none=>rfl
 |some v=>cases v<;>first|rfl|(rename_i k n;simp only[tv,aV];cases dy s k xs<;>rfl)
theorem J5(x:Operand)(xs:List Operand)(ts:Array TypeId):aN P hint s H ⟨d,.call ⟨.builtin .max,⟨x::xs⟩,ts⟩,ty,p,af,g⟩ K KP=ob (DD (closed (ao s x))) fun n=>ob (dy s n.1 xs) fun ns=>K (.d (.v (.int n.1 (ns.foldl max n.2)))) H:=by
 simp only[aN,df]
 cases closed (ao s x)with
 |none=>rfl
 |some v=>cases v<;>first|rfl|(rename_i k n;simp only[tv,aV];cases dy s k xs<;>rfl)
theorem xN(k:IntKind):dy s k []=some []:=rfl
theorem vZ(k:IntKind)(x:Operand)(xs:List Operand):dy s k (x::xs)=(DD (closed (ao s x))).bind fun n=>(dy s k xs).bind fun ns=>if n.1=k then some (n.2::ns)else none:=by
 show(match closed (ao s x),dy s k xs with|some (.int k' n),some ns=>if k'=k then some (n::ns)else none|_,_=>none)=_
 cases closed (ao s x)with
 |none=>rfl
 |some v=>cases v<;>first|rfl|(cases dy s k xs<;>rfl)
theorem Gp(t:TypeId)(x:Operand)(lo hi:Option Operand):aN P hint s H ⟨d,.slice t x lo hi none,ty,p,af,g⟩ K KP=oy (SE P t) (fun e=>ob (TI P e) fun z=>eB H z.2.1 (bO s lo) (fun n=>eg s n hi) K (ao s x))
  (oy (AE P t) (fun ne=>(lo.isNone=true∧hi.isNone=true)∧ob (TI P ne.2) fun z=>z.2.1=1∧zw H ne.1 K (ao s x))
  (P.underlying t=some .string∧ob (G6 (closed (ao s x))) fun b=>ob (bO s lo) fun l=>ob (eg s b.size hi) fun h=>0≤l∧l≤h∧h≤b.size∧K (.d (.v (.string (b.extract l.toNat h.toNat)))) H)):=by
 simp only[aN,iQ]
 cases SE P t with
 |some e=>
  simp only[gA]
  rcases TI P e with _|⟨z,k,b⟩<;>rfl
 |none=>
  simp only[gu]
  rcases AE P t with _|⟨n,e⟩
  ·simp only[gu]
   congr 1
   cases closed (ao s x)with
   |none=>rfl
   |some v=>
    cases v<;>first|rfl|skip
    rename_i b
    simp only[mj,aV]
    cases bO s lo with
    |none=>rfl
    |some l=>simp only[aV];cases eg s b.size hi<;>rfl
  ·simp only[gA]
   rcases TI P e with _|⟨z,k,b⟩<;>rfl
theorem EW(n:Nat)(K:AV→aa→Prop)(ds:List D):zw H n K (.dt ds)=(ds.length=n∧K (.d (.list true (ds.map fun d=>[d]))) H):=rfl
theorem Cg(t:TypeId)(x:Operand):aN P hint s H ⟨d,.sliceToArrayPointer t x,ty,p,af,g⟩ K KP=ob (AE P t) fun ne=>ob (Kp (ao s x)) fun es=>ob (AJ es) fun ds=>(0<ne.1∧ne.1≤ds.length)∧K (.dt (ds.take ne.1)) H:=by
 simp only[aN,iQ]
 rcases AE P t with _|⟨n,e⟩
 ·rfl
 ·simp only[aV]
  cases ao s x with
  |d u=>
   cases u with
   |v _=>rfl
   |list nn es=>simp only[pI,aV];cases AJ es<;>rfl
  |_=>rfl
theorem zg(k:Nat)(lo:Option Int)(hi:Nat→Option Int)(K:AV→aa→Prop)(nn:Bool)(es:List (List D)):eB H k lo hi K (.d (.list nn es))=((∀c∈es,c.length=k)∧ob lo fun l=>ob (hi es.length) fun h=>0≤l∧l≤h∧h≤es.length∧K (.d (.list false ((es.take h.toNat).drop l.toNat))) H):=by
 simp only[eB]
 congr 1
 cases lo with
 |none=>rfl
 |some l=>simp only[aV];cases hi es.length<;>rfl
theorem EP(k:Nat)(lo:Option Int)(hi:Nat→Option Int)(K:AV→aa→Prop)(id ver off len:Nat):eB H k lo hi K (.sl id ver off len)=(ob H[id]? fun o=>ob lo fun l=>ob (hi len) fun h=>(o.ver=ver∧o.k=k∧o.live=true)∧0≤l∧l≤h∧h≤len∧(l=0∨l<h)∧K (.sl id ver (off+l.toNat) (h.toNat-l.toNat)) H):=by
 simp only[eB]
 cases H[id]? with
 |none=>rfl
 |some o=>
  cases lo with
  |none=>rfl
  |some l=>simp only[aV];cases hi len<;>rfl
theorem Ew(t:TypeId)(x:Operand)(lo:Option Operand)(hi mx:Operand):aN P hint s H ⟨d,.slice t x lo (some hi) (some mx),ty,p,af,g⟩ K KP=ob (SE P t) fun e=>ob (TI P e) fun z=>iq H z.2.1 (bO s lo) (bO s (some hi)) (bO s (some mx)) K (ao s x):=by
 simp only[aN,iQ]
 cases SE P t with
 |some e=>
  simp only[aV]
  rcases TI P e with _|⟨z,k,b⟩<;>rfl
 |none=>rfl
theorem xf(k:Nat)(lo hi mx:Option Int)(K:AV→aa→Prop)(nn:Bool)(es:List (List D)):iq H k lo hi mx K (.d (.list nn es))=((∀c∈es,c.length=k)∧ob lo fun l=>ob hi fun h=>ob mx fun m=>0≤l∧l≤h∧h≤m∧m≤es.length∧K (.d (.list false ((es.take h.toNat).drop l.toNat))) H):=by
 cases lo<;>cases hi<;>cases mx<;>rfl
theorem tH(x:Operand)(xT t:TypeId)(ok:Bool):aN P hint s H ⟨d,.typeAssert x xT t ok,ty,p,af,g⟩ K KP=ga P t ok H K (closed (ao s x)):=rfl
theorem tS(t:TypeId)(ok:Bool)(K:AV→aa→Prop)(t':TypeId)(u:Value):ga P t ok H K (some (.iface t' u))=(isIface P t=false∧if t'=t then K (if ok=true then .bz [cD u,.d (.v (.bool true))]else cD u) H else ok=true∧ob (TI P t) fun z=>K (.bz [cD z.1,.d (.v (.bool false))]) H):=by
 simp only[ga,mB]
 by_cases h:t'=t
 ·simp only[h,if_true]
 ·simp only[h,if_false,lQ]
  cases ok
  ·simp
  ·cases TI P t<;>simp[ob]
theorem Hc(x:Operand)(t:TypeId):aN P hint s H ⟨d,.call ⟨.builtin .clear,#[x],#[t]⟩,ty,p,af,g⟩ K KP=ob (SE P t) fun e=>ob (TI P e) fun z=>(z.1.cells.size=z.2.1∧z.1.cells.all Value.oneCell'=true)∧(match ao s x with
    | .sl id ver off len=>(match H[id]? with
     |some (.arr e' k' ver' es)=>(e'=e∧k'=z.2.1∧ver'=ver)∧K (.bz []) (H.set id (.arr e z.2.1 ver (cB es off (lE z.1 len))))
     |_=>False)
    |_=>False):=by
 simp only[aN,df]
 cases SE P t with
 |none=>rfl
 |some e=>
  simp only[aV]
  rcases TI P e with _|⟨z,k,b⟩<;>rfl
theorem JE(x y:Operand)(t t':TypeId):aN P hint s H ⟨d,.call ⟨.builtin .copy,#[x,y],#[t,t']⟩,ty,p,af,g⟩ K KP=ob (SE P t) fun e=>ob (TI P e) fun z=>ob (ko H (ao s y)) fun news=>(∀c∈news,c.length=z.2.1)∧(match ao s x with
    | .sl id ver off len=>(match H[id]? with
     |some (.arr e' k' ver' es)=>(e'=e∧k'=z.2.1∧ver'=ver)∧K (.d (.v (.int .i64 ((min news.length len:Nat):Int)))) (H.set id (.arr e z.2.1 ver (cB es off (news.take (min news.length len)))))
     |_=>False)
    |_=>False):=by
 simp only[aN,df]
 cases SE P t with
 |none=>rfl
 |some e=>
  simp only[aV]
  rcases TI P e with _|⟨z,k,b⟩
  ·rfl
  ·simp only[aV]
   cases ko H (ao s y)<;>rfl
theorem xF:bO s none=some 0:=rfl
theorem vK(x:Operand):bO s (some x)=A3 (closed (ao s x)):=by
 simp only[bO]
 cases closed (ao s x)with
 |none=>rfl
 |some v=>cases v<;>rfl
theorem wq(n:Nat):eg s n none=some (n:Int):=rfl
theorem vV(n:Nat)(x:Operand):eg s n (some x)=A3 (closed (ao s x)):=by
 simp only[eg]
 cases closed (ao s x)with
 |none=>rfl
 |some v=>cases v<;>rfl
theorem G7(t:TypeId)(x ix:Operand):aN P hint s H ⟨d,.index t x ix,ty,p,af,g⟩ K KP=(P.underlying t=some .string∧ob (G6 (closed (ao s x))) fun b=>ob (A3 (closed (ao s ix))) fun i=>0≤i∧ob b[i.toNat]? fun u=>K (.d (.v (.int .u8 u.toNat))) H):=by
 simp only[aN,iQ]
 congr 1
 cases closed (ao s x)with
 |none=>rfl
 |some v=>
  cases v<;>first|rfl|skip
  rename_i b
  cases closed (ao s ix)with
  |none=>rfl
  |some v=>
   cases v<;>first|rfl|skip
   simp only[mj,aV,sJ]
   rename_i i
   congr 1
   cases b[i.toNat]?<;>rfl
theorem Cj(t:TypeId):aN P hint s H ⟨d,.makeMap t none,ty,p,af,g⟩ K KP=ob (MT P t) fun m=>K (.mp H.length) (H++[.mp m.1 []]):=by
 simp only[aN,iQ]
 rcases MT P t with _|⟨kk,kt,e⟩<;>rfl
theorem wM(t:TypeId)(l c:Operand):aN P hint s H ⟨d,.makeSlice t l c,ty,p,af,g⟩ K KP=ob (SE P t) fun e=>ob (TI P e) fun z=>ob (A3 (closed (ao s l))) fun n=>ob (A3 (closed (ao s c))) fun m=>
  (iZ P e=true∧m=n∧0≤n∧n≤1000000000000∧n* (z.2.2:Int)≤140737488355328)∧K (.sl H.length 0 0 n.toNat) (H++[.arr e z.2.1 0 (List.replicate n.toNat (z.1.cells.toList.map D.v))]):=by
 simp only[aN,iQ]
 cases SE P t with
 |none=>rfl
 |some e=>
  simp only[aV]
  rcases h:TI P e with _|⟨z,k,b⟩
  ·rfl
  ·simp only[aV,rp h]
   cases closed (ao s l)with
   |none=>rfl
   |some v=>
    cases v<;>first|rfl|skip
    cases closed (ao s c)with
    |none=>rfl
    |some v=>
     cases v<;>first|rfl|skip
     simp only[sJ,aV,and_assoc]
def K0:Option aT→Option (Nat×Nat×List Nat)
 |some (.iter m since seen)=>some (m,since,seen)
 |_=>none
theorem pQ(m since:Nat)(seen:List Nat):K0 (some (.iter m since seen))=some (m,since,seen):=rfl
def J0:AV→Option Nat
 | .ptr id 0 0 0=>some id
 |_=>none
theorem rR(id:Nat):J0 (.ptr id 0 0 0)=some id:=rfl
theorem HY(t:TypeId)(x:Operand):aN P hint s H ⟨d,.range t x,ty,p,af,g⟩ K KP=ob (MT P t) fun m=>ob (D6 (ao s x)) fun id=>ob (yi H[id]?) fun o=>o.1=m.1∧K (.ptr H.length 0 0 0) (H++[.iter id o.2.length []]):=by
 simp only[aN,iQ]
 rcases MT P t with _|⟨kk,kt,e⟩
 ·rfl
 ·simp only[aV]
  cases ao s x with
  |mp id=>
   simp only[oq,aV]
   rcases H[id]? with _|o
   ·rfl
   ·cases o<;>rfl
  |_=>rfl
theorem GX(x:Operand):aN P hint s H ⟨d,.entry x,ty,p,af,g⟩ K KP=ob (J0 (ao s x)) fun id=>ob (K0 H[id]?) fun it=>ob (yi H[it.1]?) fun o=>ob it.2.2.getLast? fun j=>ob o.2[j]? fun e=>it.2.1=o.2.length∧K (.bz [.d (.v (.int o.1 e.1)),e.2]) H:=by
 simp only[aN,iQ]
 generalize ao s x=v
 cases v with
 |ptr id ver i j=>
  cases ver with
  |succ _=>rfl
  |zero=>
   cases i with
   |succ _=>rfl
   |zero=>
    cases j with
    |succ _=>rfl
    |zero=>
      simp only[rR,aV]
      rcases H[id]? with _|o
      ·rfl
      ·cases o with
       |iter m since seen=>
        simp only[pQ,aV]
        rcases H[m]? with _|o
        ·rfl
        ·cases o with
         |mp kk es=>
          simp only[nX,aV]
          rcases seen.getLast? with _|j
          ·rfl
          ·simp only[aV]
           rcases es[j]? with _|e<;>rfl
         |_=>rfl
       |_=>rfl
 |_=>rfl
theorem IH(x:Operand):aN P hint s H ⟨d,.next x false,ty,p,af,g⟩ K KP=ob (J0 (ao s x)) fun id=>ob (K0 H[id]?) fun it=>ob (yi H[it.1]?) fun o=>it.2.1=o.2.length∧((∀j,j<o.2.length→j∈it.2.2)→K (.bz [.d (.v (.bool false))]) H)∧
  ∀j e,o.2[j]?=some e→j∉it.2.2→K (.bz [.d (.v (.bool true)),.d (.v (.int o.1 e.1)),e.2]) (H.set id (.iter it.1 it.2.1 (it.2.2++[j]))):=by
 simp only[aN,iQ]
 generalize ao s x=v
 cases v with
 |ptr id ver i j=>
  cases ver with
  |succ _=>rfl
  |zero=>
   cases i with
   |succ _=>rfl
   |zero=>
    cases j with
    |succ _=>rfl
    |zero=>
      simp only[rR,aV]
      rcases H[id]? with _|o
      ·rfl
      ·cases o with
       |iter m since seen=>
        simp only[pQ,aV]
        rcases H[m]? with _|o
        ·rfl
        ·cases o with
         |mp kk es=>simp only[nX,aV]
         |_=>rfl
       |_=>rfl
 |_=>rfl
theorem FE(t:TypeId)(x ix:Operand)(ok:Bool):aN P hint s H ⟨d,.lookup t x ix ok,ty,p,af,g⟩ K KP=ob (MT P t) fun m=>ob (TI P m.2.2) fun z=>ob (D6 (ao s x)) fun id=>ob (yi H[id]?) fun o=>ob (DD (closed (ao s ix))) fun n=>
  (o.1=m.1∧n.1=m.1)∧K (if ok then .bz [(gQ n.2 o.2).getD (cD z.1),.d (.v (.bool (gQ n.2 o.2).isSome))]else(gQ n.2 o.2).getD (cD z.1)) H:=by
 simp only[aN,iQ]
 rcases MT P t with _|⟨kk,kt,e⟩
 ·rfl
 ·simp only[aV]
  rcases TI P e with _|⟨z,k,b⟩
  ·rfl
  ·simp only[aV]
   cases ao s x with
   |mp id=>
    simp only[oq,aV]
    rcases H[id]? with _|o
    ·rfl
    ·cases o with
     |mp kk es=>
      simp only[nX,aV]
      rcases closed (ao s ix)with _|v
      ·rfl
      ·cases v<;>rfl
     |_=>rfl
   |_=>rfl
theorem wD(t:TypeId)(x ix y:Operand):aN P hint s H ⟨d,.mapUpdate t x ix y,ty,p,af,g⟩ K KP=ob (MT P t) fun m=>ob (D6 (ao s x)) fun id=>ob (yi H[id]?) fun o=>ob (DD (closed (ao s ix))) fun n=>
  (o.1=m.1∧n.1=m.1)∧K .top (H.set id (.mp m.1 (my n.2 (ao s y) o.2))):=by
 simp only[aN,iQ]
 rcases MT P t with _|⟨kk,kt,e⟩
 ·rfl
 ·simp only[aV]
  cases ao s x with
  |mp id=>
   simp only[oq,aV]
   rcases H[id]? with _|o
   ·rfl
   ·cases o with
    |mp kk es=>
     simp only[nX,aV]
     rcases closed (ao s ix)with _|v
     ·rfl
     ·cases v<;>rfl
    |_=>rfl
  |_=>rfl
theorem Dz(t:TypeId)(x ix y:Operand):aN P hint s H ⟨d,.insert t x ix y,ty,p,af,g⟩ K KP=aN P hint s H ⟨d,.mapUpdate t x ix y,ty,p,af,g⟩ K KP:=by simp only[aN,iQ]
theorem J4(b:Bool)(K:Value→Prop):FK .not (.bool b) K=K (.bool !b):=rfl
theorem K5(k:IntKind)(n:Int)(K:Value→Prop):FK .neg (.int k n) K=K (.int k (k.wrap (0-n))):=rfl
def HE(k:IntKind)(n:Int):Int:=(BitVec.ofInt k.bits (if k.signed then -1 else k.max)^^^BitVec.ofInt k.bits n).toNat
theorem Kd(k:IntKind)(n:Int)(K:Value→Prop):FK .xor (.int k n) K=K (.int k (k.wrap (HE k n))):=rfl
attribute [go_sem] J4 K5 Kd Option.getD_some Option.getD_none Option.isSome_some Option.isSome_none
def rS(k:IntKind)(m n:Int):Int:=m* 2^(min n.toNat k.bits)
def j6(k:IntKind)(m n:Int):Int:=m.fdiv (2^(min n.toNat k.bits))
def xC(k:IntKind)(m n:Int):Int:=(BitVec.ofInt k.bits m&&&BitVec.ofInt k.bits n).toNat
def JI(k:IntKind)(m n:Int):Int:=(BitVec.ofInt k.bits m|||BitVec.ofInt k.bits n).toNat
def sF(k:IntKind)(m n:Int):Int:=(BitVec.ofInt k.bits m^^^BitVec.ofInt k.bits n).toNat
def n6(k:IntKind)(m n:Int):Int:=(BitVec.ofInt k.bits m&&& ~~~BitVec.ofInt k.bits n).toNat
theorem KL(P:Program)(t:TypeId)(k k':IntKind)(m n:Int)(K:Value→Prop):dE P .shl t (.int k m) (.int k' n) K=(0≤n∧K (.int k (k.wrap (rS k m n)))):=rfl
theorem JT(P:Program)(t:TypeId)(k k':IntKind)(m n:Int)(K:Value→Prop):dE P .shr t (.int k m) (.int k' n) K=(0≤n∧K (.int k (j6 k m n))):=rfl
theorem Kl(P:Program)(t:TypeId)(k k':IntKind)(m n:Int)(K:Value→Prop):dE P .add t (.int k m) (.int k' n) K=(k=k'∧K (.int k (k.wrap (m+n)))):=rfl
theorem J6(P:Program)(t:TypeId)(k k':IntKind)(m n:Int)(K:Value→Prop):dE P .sub t (.int k m) (.int k' n) K=(k=k'∧K (.int k (k.wrap (m-n)))):=rfl
theorem KI(P:Program)(t:TypeId)(k k':IntKind)(m n:Int)(K:Value→Prop):dE P .mul t (.int k m) (.int k' n) K=(k=k'∧K (.int k (k.wrap (m* n)))):=rfl
theorem KA(P:Program)(t:TypeId)(k k':IntKind)(m n:Int)(K:Value→Prop):dE P .quo t (.int k m) (.int k' n) K=(k=k'∧n≠0∧K (.int k (k.wrap (m.tdiv n)))):=rfl
theorem JS(P:Program)(t:TypeId)(k k':IntKind)(m n:Int)(K:Value→Prop):dE P .rem t (.int k m) (.int k' n) K=(k=k'∧n≠0∧K (.int k (m.tmod n))):=rfl
theorem Kv(P:Program)(t:TypeId)(k k':IntKind)(m n:Int)(K:Value→Prop):dE P .and t (.int k m) (.int k' n) K=(k=k'∧K (.int k (k.wrap (xC k m n)))):=rfl
theorem ME(P:Program)(t:TypeId)(k k':IntKind)(m n:Int)(K:Value→Prop):dE P .or t (.int k m) (.int k' n) K=(k=k'∧K (.int k (k.wrap (JI k m n)))):=rfl
theorem JQ(P:Program)(t:TypeId)(k k':IntKind)(m n:Int)(K:Value→Prop):dE P .xor t (.int k m) (.int k' n) K=(k=k'∧K (.int k (k.wrap (sF k m n)))):=rfl
theorem DC(P:Program)(t:TypeId)(k k':IntKind)(m n:Int)(K:Value→Prop):dE P .andNot t (.int k m) (.int k' n) K=(k=k'∧K (.int k (k.wrap (n6 k m n)))):=rfl
theorem Kc(P:Program)(t:TypeId)(k k':IntKind)(m n:Int)(K:Value→Prop):dE P .eql t (.int k m) (.int k' n) K=(k=k'∧K (.bool (m==n))):=rfl
theorem JX(P:Program)(t:TypeId)(k k':IntKind)(m n:Int)(K:Value→Prop):dE P .neq t (.int k m) (.int k' n) K=(k=k'∧K (.bool (m !=n))):=rfl
theorem KE(P:Program)(t:TypeId)(k k':IntKind)(m n:Int)(K:Value→Prop):dE P .lss t (.int k m) (.int k' n) K=(k=k'∧K (.bool (decide (m<n)))):=rfl
theorem K7(P:Program)(t:TypeId)(k k':IntKind)(m n:Int)(K:Value→Prop):dE P .leq t (.int k m) (.int k' n) K=(k=k'∧K (.bool (decide (m≤n)))):=rfl
theorem JZ(P:Program)(t:TypeId)(k k':IntKind)(m n:Int)(K:Value→Prop):dE P .gtr t (.int k m) (.int k' n) K=(k=k'∧K (.bool (decide (m>n)))):=rfl
theorem KN(P:Program)(t:TypeId)(k k':IntKind)(m n:Int)(K:Value→Prop):dE P .geq t (.int k m) (.int k' n) K=(k=k'∧K (.bool (decide (m≥n)))):=rfl
theorem Km(P:Program)(t:TypeId)(m n:ByteArray)(K:Value→Prop):dE P .eql t (.string m) (.string n) K=K (.bool (m.toList==n.toList)):=rfl
theorem Kb(P:Program)(t:TypeId)(m n:ByteArray)(K:Value→Prop):dE P .neq t (.string m) (.string n) K=K (.bool (!(m.toList==n.toList))):=rfl
theorem Lg(P:Program)(t:TypeId)(m n:ByteArray)(K:Value→Prop):dE P .lss t (.string m) (.string n) K=K (.bool (Op.bytesLess m.toList n.toList)):=rfl
theorem KZ(P:Program)(t:TypeId)(m n:ByteArray)(K:Value→Prop):dE P .gtr t (.string m) (.string n) K=K (.bool (!(Op.bytesLess m.toList n.toList||m.toList==n.toList))):=rfl
attribute [go_sem] KL JT Kl J6 KI KA JS Kv ME JQ DC Kc JX KE K7 JZ KN Km Kb Lg KZ
def qH(H:aa)(e:TypeId)(k b:Nat)(news:List (List D))(K:AV→aa→Prop):AV→Prop
 | .sl id ver 0 len=>ob H[id]? fun o=>match o with
  | .arr e' k' ver' es=>(e'=e∧k'=k∧ver'=ver∧es.length=len)∧(es.length+news.length)* b≤140737488355328∧es.length+news.length≤9223372036854775807∧
    K (.sl id (ver+1) 0 (es.length+news.length)) (H.set id (.arr e k (ver+1) (es++news)))
  |_=>False
 |x=>isNone x=true∧news.length* b≤140737488355328∧news.length≤9223372036854775807∧K (.sl H.length 1 0 news.length) (H++[.arr e k 1 news])
theorem Cq(H:aa)(e:TypeId)(k b:Nat)(news:List (List D))(K:AV→aa→Prop):qH H e k b news K .eS=(news.length* b≤140737488355328∧news.length≤9223372036854775807∧K (.sl H.length 1 0 news.length) (H++[.arr e k 1 news])):=by
 simp[qH,isNone]
theorem Er(x y:Operand)(t t':TypeId):aN P hint s H ⟨d,.call ⟨.builtin .append,#[x,y],#[t,t']⟩,ty,p,af,g⟩ K KP=ob (SE P t) fun e=>ob (TI P e) fun z=>(z.1.cells.size=z.2.1∧0<z.2.1)∧ob (o8 P t t' z.2.1 H (ao s y)) fun news=>
  (∀c∈news,c.length=z.2.1)∧qH H e z.2.1 z.2.2 news K (ao s x):=by
 simp only[aN,df]
 cases SE P t with
 |none=>simp[ob]
 |some e=>
  simp only[aV]
  rcases TI P e with _|⟨z,k,b⟩
  ·rfl
  ·simp only[aV]
   congr 1
   cases o8 P t t' k H (ao s y)with
   |none=>rfl
   |some news=>
    simp only[aV]
    congr 1
    cases ao s x with
    |sl id ver off len=>
     cases off with
     |zero=>
      simp only[qH]
      cases H[id]? with
      |none=>rfl
      |some ob=>cases ob<;>rfl
     |succ off=>rfl
    |_=>rfl
def ae(P:Program)(f:FuncId)(args:List AV)(H:aa)(K:AV→aa→Prop)(KP:Value→aa→Prop):Prop:=∃res H',ag P f args H res H'∧(match res with| .ok r=>K r H'| .panic v=>KP v H')
def ES(P:Program)(id:Nat)(args:List AV)(H:aa)(K:AV→aa→Prop):Prop:=∃R,yP P H id args R∧∀b H',R b H'→K (.d (.v (.bool b))) H'
theorem ES.ok{P:Program}{id:Nat}{args:List AV}{H:aa}{K:AV→aa→Prop}{R:Bool→aa→Prop}(h:yP P H id args R)(hk:∀b H',R b H'→K (.d (.v (.bool b))) H'):ES P id args H K:=⟨R,h,hk⟩
theorem IN(f:Operand)(xs:Array Operand)(ts:Array TypeId):aN P hint s H ⟨d,.call ⟨.value f,xs,ts⟩,ty,p,af,g⟩ K KP=oc (ao s f) (fun f cs=>ae P f (xs.toList.map (ao s)++cs) H K KP) (fun id=>hint 3000000=true∧ES P id (xs.toList.map (ao s)) H K):=by
 simp only[aN]
 cases ao s f<;>rfl
theorem HM(x:Operand):aN P hint s H ⟨d,.panic x,ty,p,af,g⟩ K KP=(match closed (ao s x)with|some (.iface t u)=>KP (.iface t u) H|_=>False):=rfl
theorem ae.ok{P:Program}{f:FuncId}{args:List AV}{H:aa}{K:AV→aa→Prop}{KP:Value→aa→Prop}{r:AV}{H':aa}(h:ag P f args H (.ok r) H')(hk:K r H'):ae P f args H K KP:=⟨_,_,h,hk⟩
theorem ae.panic{P:Program}{f:FuncId}{args:List AV}{H:aa}{K:AV→aa→Prop}{KP:Value→aa→Prop}{v:Value}{H':aa}(h:ag P f args H (.panic v) H')(hk:KP v H'):ae P f args H K KP:=⟨_,_,h,hk⟩
end
attribute [go_sem] I2 Hh er uV HX Cs tO jN Bs wJ vI Cl EH yN HZ Ar CE iT uz y7 II Ag vP uo HY GX IH pQ rR IP EL Iy Aj Kg F9 um sv I3 Hg xA wT Kw Mh Cy pI Co zM x5 po HM Jn Cj wM FE wD Gp EW Cg Option.isNone_none Option.isNone_some zg EP Ew xf tH tS Hc JE xF vK wq vV G7 Dz Lc J5 xN vZ List.foldl_cons List.foldl_nil Er IN DL F4 Jk Cq I8 IW FJ Ax B5 AL yh uq wo sO Cd xI qR tp Gh G5 yO AT BL jj F0 CM yb AZ FL BM IY Fs AS B4 Fh CB Ei AH uP BT Hu Fy LS DI B6 ni Dp GI CX F6 List.set_cons_zero List.set_cons_succ dz chunk j5 gX cL jY aT.ver aT.k aT.live aT.len Bool.and_true AV.one sH xr isNone
theorem tail_append(H T:aa):∀i o,i<H.length→(H++T)[i]?=some o→H[i]?=some o∨o.below H.length=true:=fun i o hi h=> .inl (by rwa[List.getElem?_append_left hi]at h)
theorem ay.drop(H T:aa)(s:Nat→AV):ay H s (H++T) (fun t=>sx (H++T) H.length (s t)) H:=by
 have:=ay.zS (H0:=H) s (H++T) H.length (Nat.le_refl _) (by simp) (tail_append H T)
 rwa[List.take_left]at this
theorem aw.ret{rs:List Tmp}{H T:aa}{s:Nat→AV}{r:AV}(h:r=jY rs fun t=>sx (H++T) H.length (s t)):aw rs H (.ok r) H .ret s (H++T):=⟨_,ay.drop H T s,by rw[h]⟩
theorem aw.aI{rs:List Tmp}{H:aa}{s:Nat→AV}{r:AV}(h:r=jY rs s):aw rs H (.ok r) H .ret s H:=⟨_,ay.refl s H,by rw[h]⟩
theorem Mx(H:aa)(m:Nat)(x:D):sx H m (.d x)= .d x:=rfl
theorem Js(H:aa)(m:Nat)(cs:List AV):sx H m (.agg cs)= .agg (cs.map (mu H m)):=rfl
theorem wx(H:aa)(m id v off len:Nat):sx H m (.sl id v off len)=mu H m (.sl id v off len):=rfl
theorem Ip(H:aa)(m id v i j:Nat):sx H m (.ptr id v i j)=mu H m (.ptr id v i j):=rfl
theorem KB(H:aa)(m:Nat)(x:D):mu H m (.d x)= .d x:=rfl
theorem rl(H:aa)(m id v off len:Nat):mu H m (.sl id v off len)=if id<m then .sl id v off len else match H[id]? with
  |some (.arr _ _ ver es)=>if ver=v then .d (.list false ((es.drop off).take len))else .top
  |_=> .top:=rfl
theorem Gb(H:aa)(m id v i j:Nat):mu H m (.ptr id v i j)=if id<m then .ptr id v i j else .top:=rfl
theorem ay.db(H:aa)(s:Nat→AV)(t:Nat)(e:TypeId)(k:Nat)(hk:0<k)(h:isNone (s t)=true)(H0:aa):ay H0 s H (fun u=>if u=t then .sl H.length 0 0 0 else s u) (H++[.arr e k 0 []]):= .Ia s H t e k 0 hk h
attribute [go_sem] Mx Js wx Ip KB rl Gb
theorem E8{α:Type}(x:α)(l:List α)(d:α):(x::l).getD 0 d=x:=rfl
theorem Fe{α:Type}(x:α)(l:List α)(n:Nat)(d:α):(x::l).getD (n+1) d=l.getD n d:=rfl
theorem getD_nil{α:Type}(n:Nat)(d:α):([]:List α).getD n d=d:=rfl
theorem toList_mk{α:Type}(l:List α):l.toArray.toList=l:=rfl
theorem pE{α:Type}(l:List α)(i:Nat):l.toArray[i]?=l[i]?:=by simp
attribute [go_sem] E8 Fe getD_nil toList_mk pE List.map_cons List.map_nil List.length_cons List.length_nil List.length_map List.getElem?_cons_zero List.getElem?_cons_succ List.getElem?_map List.getElem?_nil Option.map_some Option.map_none Option.bind_some Option.bind_none List.take_succ_cons List.take_zero List.take_nil List.drop_succ_cons List.drop_zero List.drop_nil List.append_assoc List.cons_append List.nil_append List.all_cons List.all_nil Bool.and_true Bool.true_and Bool.and_false Bool.false_and Bool.and_self Nat.zero_add Nat.add_zero Nat.zero_mul Nat.mul_zero Nat.one_mul Nat.mul_one Bool.not_true Bool.not_false Int.toNat_natCast Int.natCast_nonneg List.size_toArray true_and and_true beq_self_eq_true decide_true decide_false if_true if_false Nat.le_refl ne_eq not_true not_false_iff reduceCtorEq Array.toList_map List.length_append List.mem_cons List.not_mem_nil or_false forall_eq Int.ofNat_lt Int.ofNat_le
theorem KR:List.range 0=[]:=rfl
theorem I0(k:IntKind)(n:Int):(Value.int k n).oneCell'=true:=rfl
theorem BQ(b:ByteArray):(Value.string b).oneCell'=true:=rfl
theorem Em(a:Option Addr)(n c:Nat):(Value.slice a n c).oneCell'=true:=rfl
theorem x9:Value.nilFunc.oneCell'=true:=rfl
theorem wrap64_in(n:Int)(h0:-9223372036854775808≤n)(h1:n≤9223372036854775807):IntKind.i64.wrap n=n:=by
 simp[IntKind.wrap,IntKind.signed,IntKind.bits];omega
theorem cg(n:Int)(h0:0≤n)(h1:n≤18446744073709551615):IntKind.u64.wrap n=n:=by
 simp[IntKind.wrap,IntKind.signed,IntKind.bits];omega
theorem mP(n:Int)(h0:0≤n)(h1:n≤255):IntKind.u8.wrap n=n:=by
 simp[IntKind.wrap,IntKind.signed,IntKind.bits];omega
attribute [go_sem] ge_iff_le gt_iff_lt KR I0 BQ Em x9 List.getElem!_toArray List.getElem!_cons_zero List.getElem!_cons_succ
theorem Jb(l:List Value):l.toArray.all Value.oneCell'=l.all Value.oneCell':=by simp
theorem bQ{α:Type}(l:List α)(n:Nat)(h:l.length=n):l.take n=l:=by subst h;simp
attribute [go_sem↓] Jb
end Go.Proofs.YtmbagpfmfiegkaaGreatAw
namespace Go.Proofs.YtmbagpfmfiegkaaGreatAw
open Go.RowKit
theorem Rel.nothing{N:Addr→Prop}{w:World}(h:∀a,N a→∃v,w.cell? a=some v):Rel [] (fun _=>none) N w where
 obj id o h:=by simp at h
 inj i j B c c' hi:=by simp at hi
 live:=h
 apart a id B c ha hid:=by simp at hid
theorem ag.walk{P:Program}{f:FuncId}{fn:Func}{body:Code}(hf:P.funcs[f]?=some fn)(hn:(fn.name== "runtime.NumGoroutine")=false)(hb:fn.body=some body){args:List AV}
  (h:ag P f args [] (.ok (.d (.v (.bool true)))) []) (N:Addr→Prop) (w:World) (vals:Array Value) (hN:∀a,N a→∃v,w.cell? a=some v) (hA:tF [] (fun _=>none) N w args vals):
  Calls P f vals w fun e w'=>e= .returned (.bool true)∧Below w.heap.size w w':=by
 rcases h (fun _=>none) N w vals (Rel.nothing hN) hA with⟨_,h⟩|⟨v,w',h,_⟩
 ·refine h.mono ?_
  rintro e w' ⟨φ',N',hR,hS,hE⟩
  refine⟨?_,hS.os,hS.tape,hS.output,hS.size,fun k hk=>hS.ev k hk fun id c hid=>by simp at hid⟩
  cases e with
  |returned v=>rw[RA.closed hE]
  |_=>exact hE.elim
 ·rw[je hf hn (by rw[hb];rfl)]at h
  cases h
end Go.Proofs.YtmbagpfmfiegkaaGreatAw
namespace Go.Proofs.YtmbagpfmfiegkaaGreatAw
open Go.RowKit Go.WideShapes
inductive Sh where
 |int (k:IntKind)
 |bool
 |str
 |slice (b:Nat) (es:List Sh)
mutual
inductive Fits:Sh→D→Prop
 |int (k:IntKind) (n:Int) (h:(Lit.int k n).wf=true):Fits (.int k) (.v (.int k n))
 |bool (b:Bool):Fits .bool (.v (.bool b))
 |str (s:ByteArray) (h:s.size≤reachBytes):Fits .str (.v (.string s))
 |slice (b:Nat) (es:List Sh) (l:List (List D)) (h1:l.length* b≤reachBytes) (h2:l.length≤maxLen) (h:∀e∈l,eR es e):Fits (.slice b es) (.list false l)
inductive eR:List Sh→List D→Prop
 |nil:eR [] []
 |cons {s:Sh} {x:D} {ss:List Sh} {xs:List D} (h:Fits s x) (t:eR ss xs):eR (s::ss) (x::xs)
end
def l9(P:Program)(g:TypeId→Option (List Sh)):Nat→List Field→Option (List Sh)
 |_,[]=>some []
 |off,f::fs=>if f.offset=off then(match g f.type with|some l=>if l.length=P.cellsOf f.type then(l9 P g (off+l.length) fs).map (l++·)else none|none=>none)else none
def sr(P:Program):Nat→TypeId→Option (List Sh)
 |0,_=>none
 |n+1,t=>match P.underlying t with
  |some .bool=>some [.bool]
  |some (.int k)=>some [.int k]
  |some .string=>some [.str]
  |some (.slice e)=>(match sr P n e with|some es=>if es.length=P.cellsOf e then some [.slice (P.bytesOf e) es]else none|none=>none)
  |some (.struct fs)=>(match l9 P (sr P n) 0 fs.toList with|some l=>if l.length=P.cellsOf t then some l else none|none=>none)
  |some (.array m e)=>(match sr P n e with|some es=>if es.length=P.cellsOf e∧P.cellsOf t=m* es.length then some ((List.replicate m es).flatten)else none|none=>none)
  |_=>none
def Live(w:World):Addr→Prop:=fun a=>∃v,w.cell? a=some v
def FA(w:World)(ds:List D)(cs:List Value):Prop:=ds.length=cs.length∧∀i (h1:i<ds.length) (h2:i<cs.length),RD (Live w) w (ds[i]) (cs[i])
theorem FA.nil{w:World}:FA w [] []:=⟨rfl,fun i h=>by simp at h⟩
theorem FA.one{w:World}{d:D}{c:Value}(h:RD (Live w) w d c):FA w [d] [c]:=⟨rfl,fun i h1 h2=>by
 simp only[List.length_singleton]at h1
 have:i=0:=by omega
 subst this;exact h⟩
theorem FA.append{w:World}{ds es:List D}{cs bs:List Value}(h:FA w ds cs)(g:FA w es bs):FA w (ds++es) (cs++bs):=by
 refine⟨by simp[h.1,g.1],fun i h1 h2=>?_⟩
 by_cases hi:i<ds.length
 ·rw[List.getElem_append_left hi,List.getElem_append_left (by rw[←h.1];exact hi)]
  exact h.2 i _ _
 ·simp only[List.length_append]at h1
  rw[List.getElem_append_right (by omega),List.getElem_append_right (by rw[←h.1];omega)]
  have:=g.2 (i-ds.length) (by omega) (by rw[←g.1];omega)
  simpa[h.1]using this
theorem eR.append:∀{ss ts:List Sh} {xs ys:List D},eR ss xs→eR ts ys→eR (ss++ts) (xs++ys)
 |_,_,_,_,.nil,h=>h
 |_,_,_,_,.cons h t,g=> .cons h (t.append g)
theorem eR.len:∀{ss:List Sh} {xs:List D},eR ss xs→xs.length=ss.length
 |_,_,.nil=>rfl
 |_,_,.cons _ t=>by simp[t.len]
theorem qL{α:Type}(p:Nat→α→Prop):∀n,(∀i,i<n→∃y,p i y)→∃l:List α,l.length=n∧∀i (h:i<l.length),p i l[i]
 |0,_=>⟨[],rfl,fun i h=>by simp at h⟩
 |n+1,h=>by
  obtain⟨l,hl,hp⟩:=qL p n fun i hi=>h i (by omega)
  obtain⟨y,hy⟩:=h n (by omega)
  refine⟨l++[y],by simp[hl],fun i hi=>?_⟩
  by_cases e:i<l.length
  ·rw[List.getElem_append_left e];exact hp i e
  ·simp at hi
   have:i=n:=by omega
   subst this
   rw[List.getElem_append_right (by omega)]
   simpa[hl]using hy
theorem EX{w:World}{a:Addr}{k:Nat}{cs:List Value}(h:w.cells? 0 a k=some cs):cs.length=k∧∀j (hj:j<cs.length),w.cell? (a.add j)=some cs[j]:=by
 unfold World.cells? at h
 rw[if_pos (Nat.zero_le _)]at h
 have hl:=mapM_some_length h
 rw[List.length_range]at hl
 refine⟨hl,fun j hj=>?_⟩
 have:=mapM_some_get h j j (by rw[List.getElem?_range (by omega)])
 rw[this]
 simp
section
variable {H:Type} {enc:TypeId×Value→H} {P:Program} {w:World}
theorem mX{g:TypeId→Option (List Sh)}:∀(fs:List Field) (off:Nat) (shs:List Sh) (cs:List Value),l9 P g off fs=some shs→cs.length=off+shs.length→
  (∀f∈fs,∀l,g f.type=some l→∃ds,eR l ds∧FA w ds ((cs.drop f.offset).take (P.cellsOf f.type)))→∃ds,eR shs ds∧FA w ds (cs.drop off)
 |[],off,shs,cs,h,hl,_=>by
  simp only[l9]at h
  cases h
  refine⟨[],.nil,?_⟩
  rw[List.drop_of_length_le (by simp at hl;omega)]
  exact .nil
 |f::fs,off,shs,cs,h,hl,hf=>by
  simp only[l9]at h
  split at h
  ·rename_i ho
   split at h
   ·rename_i l hgl
    split at h
    ·rename_i hk
     obtain⟨rest,hr,rfl⟩:=Option.map_eq_some_iff.1 h
     simp only[List.length_append]at hl
     obtain⟨ds,h1,h2⟩:=hf f (by simp) l hgl
     obtain⟨es,h3,h4⟩:=mX fs (off+l.length) rest cs hr (by omega) fun f' hf'=>hf f' (by simp[hf'])
     refine⟨ds++es,h1.append h3,?_⟩
     rw[ho,←hk]at h2
     have:=h2.append h4
     rwa[←List.drop_drop,List.take_append_drop]at this
    ·cases h
   ·cases h
  ·cases h
theorem jm:∀{ds:List (DataW H)} {e:TypeId} {d:DataW H} {n:Nat},d∈ds→n∈d.weights P e→n∈DataW.weightsAll P e ds
 |d'::ds,e,d,n,hd,hn=>by
  simp only[DataW.weightsAll,List.mem_append]
  rcases List.mem_cons.1 hd with rfl|hd
  ·exact .inl hn
  ·exact .inr (jm hd hn)
theorem trod_good:∀(n:Nat) (t:TypeId) (shs:List Sh) (fuel:Nat) (cs:List Value) (x:DataW H×List MemPlace),sr P n t=some shs→DataW.trod enc P w 0 (fun _=>true) true fuel t cs=some x→
  (∀m∈x.1.weights P t,m≤reachBytes)→∃ds,eR shs ds∧FA w ds cs:=by
 intro n
 induction n with
 |zero=>intro t shs fuel cs x h;cases h
 |succ n ih=>
  intro t shs fuel cs x h hx hw
  unfold sr at h
  split at h
  ·rename_i hu
   cases h
   obtain⟨b,rfl,rfl⟩:=DataW.trod_bool hu hx
   exact⟨[.v (.bool b)],.cons (.bool b) .nil,.one (.v _ rfl)⟩
  ·rename_i k hu
   cases h
   obtain⟨m,rfl,rfl,hwf⟩:=DataW.trod_int hu hx
   exact⟨[.v (.int k m)],.cons (.int k m hwf) .nil,.one (.v _ rfl)⟩
  ·rename_i hu
   cases h
   obtain⟨s,rfl,rfl,hs⟩:=DataW.trod_string hu hx
   have:s.size≤reachBytes:=by
    have:=hw s.data.toList.length (by simp[DataW.weights])
    simpa using this
   exact⟨[.v (.string s)],.cons (.str s this) .nil,.one (.v _ rfl)⟩
  ·rename_i e hu
   split at h
   ·rename_i es hes
    split at h
    ·rename_i hk
     cases h
     rcases DataW.trod_slice hu hx with⟨rfl,rfl⟩|⟨a,len,cap,elems,rest,m,rfl,rfl,rfl,_,hlc,hcm,hel,hget,_,_⟩
     ·exact⟨[.list false []],.cons (.slice _ _ _ (by simp) (by simp) (by simp)) .nil,.one (.nil _ _ fun _=>rfl)⟩
     ·have key:∀i,i<len→∃y:List D,eR es y∧∀j (h1:j<y.length),∃c,w.cell? (a.add (i* es.length+j))=some c∧RD (Live w) w y[j] c:=by
       intro i hi
       have hg:=hget i hi
       rw[List.getElem?_eq_getElem (by omega)]at hg
       obtain⟨ci,hci,htr⟩:=Option.bind_eq_some_iff.1 hg
       obtain⟨hcl,hcell⟩:=EX hci
       obtain⟨ds,h1,h2⟩:=ih e es m ci _ hes htr fun q hq=>hw q (by
        simp only[DataW.weights,hu]
        refine List.mem_cons_of_mem _ (List.mem_append_left _ (jm (List.mem_map.2 ⟨_,List.getElem_mem (show i<elems.length by omega),rfl⟩) hq)))
       refine⟨ds,h1,fun j hj=>?_⟩
       have hjc:j<ci.length:=by rw[←h2.1];exact hj
       refine⟨ci[j],?_,h2.2 j hj hjc⟩
       rw[←hcell j hjc,add_add,hk]
      obtain⟨l,hll,hlp⟩:=qL _ len key
      refine⟨[.list false l],.cons (.slice _ _ _ ?_ (by omega) fun y hy=>?_) .nil,.one ?_⟩
      ·have:=hw ((elems.length+rest.length)* P.bytesOf e) (by simp[DataW.weights,hu])
       have h2:l.length* P.bytesOf e≤(elems.length+rest.length)* P.bytesOf e:=Nat.mul_le_mul_right _ (by omega)
       omega
      ·obtain⟨i,hi,rfl⟩:=List.mem_iff_getElem.1 hy
       exact(hlp i hi).1
      ·have hlen:l.length=len:=hll
       subst hlen
       have hw':∀i j,i<l.length→j<es.length→∃c,w.cell? (a.add (i* es.length+j))=some c:=by
        intro i j hi hj
        have:=(hlp i hi).1.len
        obtain⟨c,hc,_⟩:=(hlp i hi).2 j (by omega)
        exact⟨c,hc⟩
       refine .list false l a cap es.length (fun i j=>(w.cell? (a.add (i* es.length+j))).getD undef) hlc (fun y hy=>?_) (fun i j hi hj=>?_) fun i hi j hj=>?_
       ·obtain⟨i,hi,rfl⟩:=List.mem_iff_getElem.1 hy
        exact(hlp i hi).1.len
       ·obtain⟨c,hc⟩:=hw' i j hi hj
        exact⟨⟨c,hc⟩,by simp[hc]⟩
       ·obtain⟨c,hc,hd⟩:=(hlp i hi).2 j hj
        simpa[hc]using hd
    ·cases h
   ·cases h
  ·rename_i fs hu
   split at h
   ·rename_i l hl
    split at h
    ·rename_i hk
     cases h
     obtain⟨xs,m,rfl,rfl,hcl,hxl,hget⟩:=DataW.trod_struct hu hx
     have:=mX (w:=w) fs.toList 0 shs cs hl (by omega) fun f hf l' hl'=>by
      obtain⟨i,hi,rfl⟩:=List.mem_iff_getElem.1 hf
      have hi':i<fs.size:=by simpa using hi
      have hg:=hget i fs[i] (by simp[hi'])
      rw[List.getElem?_eq_getElem (by omega)]at hg
      refine ih _ l' m _ _ (by simpa using hl') (by simpa using hg) fun q hq=>hw q ?_
      simp only[DataW.weights,hu]
      refine DataW.weights_mem_each (j:=i) (t:=(fs.toList[i]).type) (d:=(xs[i]'(by omega)).1) ?_ ?_ q hq
      ·simp[hi']
      ·simp[show i<xs.length by omega]
     simpa using this
    ·cases h
   ·cases h
  ·rename_i m e hu
   split at h
   ·rename_i es hes
    split at h
    ·rename_i hk
     cases h
     cases fuel with
     |zero=>simp[DataW.trod]at hx
     |succ f=>
      unfold DataW.trod at hx
      rw[hu]at hx
      have hx':(if cs.length=P.cellsOf t then((List.range m).mapM fun i=>DataW.trod enc P w 0 (fun _=>true) true f e ((cs.drop (i* P.cellsOf e)).take (P.cellsOf e))).map fun xs=>(DataW.agg (xs.map (·.1)),xs.flatMap (·.2))else none)=some x:=by
       revert hx
       rcases cs with _|⟨c,_|⟨c',cs⟩⟩
       ·exact id
       ·cases c<;>exact id
       ·exact id
      split at hx'
      ·rename_i hcl
       obtain⟨xs,hxs,rfl⟩:=Option.map_eq_some_iff.1 hx'
       have hxl:=mapM_some_length hxs
       rw[List.length_range]at hxl
       have key:∀q,q≤m→∃ds,eR ((List.replicate q es).flatten) ds∧FA w ds (cs.take (q* es.length)):=by
        intro q
        induction q with
        |zero=>intro _;exact⟨[],by simpa using eR.nil,by simpa using FA.nil⟩
        |succ q ihq=>
         intro hq
         obtain⟨ds,h1,h2⟩:=ihq (by omega)
         have hg:=mapM_some_get hxs q q (by rw[List.getElem?_range (by omega)])
         rw[List.getElem?_eq_getElem (by omega)]at hg
         obtain⟨ds',h3,h4⟩:=ih e es f _ _ hes hg fun z hz=>hw z (by
          simp only[DataW.weights,hu]
          exact jm (List.mem_map.2 ⟨_,List.getElem_mem (show q<xs.length by omega),rfl⟩) hz)
         refine⟨ds++ds',?_,?_⟩
         ·rw[List.replicate_succ',List.flatten_append]
          simpa using h1.append h3
         ·have:=h2.append h4
          rw[←hk.1,←List.take_add]at this
          rwa[Nat.add_mul,Nat.one_mul]
       obtain⟨ds,h1,h2⟩:=key m (Nat.le_refl _)
       refine⟨ds,h1,?_⟩
       rwa[←hk.2,←hcl,List.take_length]at h2
      ·cases hx'
    ·cases h
   ·cases h
  ·cases h
def tu(P:Program)(t:TypeId)(x:AV):Prop:=(gT P t=some false∧∃sh d,sr P 9 t=some [sh]∧Fits sh d∧x= .d d)∨(gT P t=some true∧∃shs ds,sr P 9 t=some shs∧eR shs ds∧x= .agg (ds.map .d))
theorem J1{t:TypeId}{v:Value}{d:DataW H}{ps:List MemPlace}{shs:List Sh}{b:Bool}(hs:sr P 9 t=some shs)(hg:gT P t=some b)(hval:Value.okWide P w .any 0 t v)(h:DataW.Trod enc P w 0 (fun _=>true) true t v d ps)
  (hw:∀m∈d.weights P t,m≤reachBytes):∃x,tu P t x∧RA [] (fun _=>none) (Live w) w x v:=by
 obtain⟨fuel,hf⟩:=h
 obtain⟨ds,h1,h2⟩:=trod_good 9 t shs fuel v.cells.toList _ hs hf hw
 unfold gT at hg
 obtain⟨desc,hd,hb⟩:=Option.map_eq_some_iff.1 hg
 have one:v.cells=#[v]→ds.length=1→b=false→∃x,tu P t x∧RA [] (fun _=>none) (Live w) w x v:=by
  intro hv hl hbf
  subst hbf
  have hl2:=h1.len
  match ds,hl,shs,hs,h1,h2 with
  |[d0],_,[sh],hs,.cons hd0 .nil,h2=>
   refine⟨.d d0,.inl ⟨by unfold gT;rw[hd];exact congrArg some hb,sh,d0,hs,hd0,rfl⟩,.d ?_⟩
   have:=h2.2 0 (by simp) (by simp[hv])
   simpa[hv]using this
 have agg:b=true→(∃cs,v= .agg cs)→∃x,tu P t x∧RA [] (fun _=>none) (Live w) w x v:=by
  intro hbt ⟨cs,hv⟩
  subst hbt hv
  refine⟨.agg (ds.map .d),.inr ⟨by unfold gT;rw[hd];exact congrArg some hb,shs,ds,hs,h1,rfl⟩,.agg _ _ (by simpa[Value.cells]using h2.1) fun i g1 g2=>?_⟩
  simp only[List.getElem_map]
  have:=h2.2 i (by simpa using g1) (by simpa[Value.cells]using g2)
  exact .d (by simpa[Value.cells]using this)
 have len1:v.cells=#[v]→ds.length=1:=fun hv=>by rw[h2.1,hv];rfl
 unfold sr at hs
 rw[hd]at hs
 cases desc with
 |bool=>obtain⟨q,rfl⟩:=okWide_bool hd hval;exact one rfl (len1 rfl) hb.symm
 |int k=>obtain⟨q,rfl⟩:=okWide_int hd hval;exact one rfl (len1 rfl) hb.symm
 |string=>obtain⟨q,rfl⟩:=okWide_string hd hval;exact one rfl (len1 rfl) hb.symm
 |slice e=>obtain⟨q,l,c,rfl⟩:=okWide_slice hd hval;exact one rfl (len1 rfl) hb.symm
 |struct fs=>obtain⟨cs,rfl,_⟩:=okWide_struct hd hval;exact agg hb.symm ⟨cs,rfl⟩
 |array m e=>
  have hval':=hval
  unfold Value.okWide at hval'
  rw[hd]at hval'
  obtain⟨cs,rfl,_⟩:=hval'
  exact agg hb.symm ⟨cs,rfl⟩
 |_=>simp at hs
theorem arg_in'{t:TypeId}{v:Value}{d:DataW H}{ps:List MemPlace}(hs:(sr P 9 t).isSome=true)(hg:(gT P t).isSome=true)(hval:Value.okWide P w .any 0 t v)(h:DataW.Trod enc P w 0 (fun _=>true) true t v d ps)
  (hw:∀m∈d.weights P t,m≤reachBytes):∃x,tu P t x∧RA [] (fun _=>none) (Live w) w x v:=by
 obtain⟨shs,hs⟩:=Option.isSome_iff_exists.1 hs
 obtain⟨b,hg⟩:=Option.isSome_iff_exists.1 hg
 exact J1 hs hg hval h hw
end
inductive RAL (H:aa) (φ:bI) (N:Addr→Prop) (w:World):List AV→List Value→Prop
 |nil:RAL H φ N w [] []
 |cons {x:AV} {v:Value} {xs:List AV} {vs:List Value} (h:RA H φ N w x v) (t:RAL H φ N w xs vs):RAL H φ N w (x::xs) (v::vs)
theorem RAL.to{H:aa}{φ:bI}{N:Addr→Prop}{w:World}:∀{xs:List AV} {vs:List Value},RAL H φ N w xs vs→xs.length=vs.length∧∀i (h1:i<xs.length) (h2:i<vs.length),RA H φ N w (xs[i]) (vs[i])
 |_,_,.nil=>⟨rfl,fun i h=>by simp at h⟩
 |_,_,.cons h t=>⟨by simp[t.to.1],fun i h1 h2=>by
  cases i with
  |zero=>exact h
  |succ i=>simpa using t.to.2 i (by simpa using h1) (by simpa using h2)⟩
theorem RAL.ras{H:aa}{φ:bI}{N:Addr→Prop}{w:World}{xs:List AV}{vs:List Value}(h:RAL H φ N w xs vs):tF H φ N w xs vs.toArray:=⟨by simpa using h.to.1,fun i h1 h2=>by simpa using h.to.2 i h1 (by simpa using h2)⟩
end Go.Proofs.YtmbagpfmfiegkaaGreatAw
namespace Go.Proofs.YtmbagpfmfiegkaaGreat.K
open Go.Proofs.YtmbagpfmfiegkaaGreatAw
theorem OF:iZ Tryz.prog 3=true:=by kernel_rfl
theorem OR:iZ Tryz.prog 4=true:=by kernel_rfl
theorem OT:iZ Tryz.prog 5=true:=by kernel_rfl
theorem Nk:iZ Tryz.prog 25=true:=by kernel_rfl
theorem Od:iZ Tryz.prog 27=true:=by kernel_rfl
theorem NI:iZ Tryz.prog 30=true:=by kernel_rfl
theorem NR:iZ Tryz.prog 31=true:=by kernel_rfl
theorem M0:iZ Tryz.prog 34=true:=by kernel_rfl
theorem M9:iZ Tryz.prog 36=true:=by kernel_rfl
theorem On:iZ Tryz.prog 42=true:=by kernel_rfl
theorem NG:iZ Tryz.prog 49=true:=by kernel_rfl
theorem Ng:iZ Tryz.prog 78=true:=by kernel_rfl
theorem NU:iZ Tryz.prog 83=true:=by kernel_rfl
theorem NA:iZ Tryz.prog 86=true:=by kernel_rfl
theorem NW:iZ Tryz.prog 88=true:=by kernel_rfl
theorem M7:iZ Tryz.prog 97=true:=by kernel_rfl
theorem MH:gZ Tryz.prog 123=true:=by kernel_rfl
theorem LM:gZ Tryz.prog 155=true:=by kernel_rfl
theorem LG:iZ Tryz.prog 165=true:=by kernel_rfl
theorem Ml:iZ Tryz.prog 216=true:=by kernel_rfl
theorem NV:isAny Tryz.prog 20=true:=by kernel_rfl
attribute [go_sem] OF OR OT Nk Od NI NR M0 M9 On NG Ng NU NA NW M7 MH LM LG Ml NV
end Go.Proofs.YtmbagpfmfiegkaaGreat.K
namespace Go.Proofs.YtmbagpfmfiegkaaGreatAw
open Go.RowKit
section
variable {P:Program} {hint:Nat→Bool} {s:Nat→AV} {H:aa}
theorem Lz{A B C D E F G G':Prop}(g:G→G'):(A∧B∧C∧D∧E∧F∧G)→(A∧B∧C∧D∧E∧F∧G'):=fun⟨a,b,c,d,e,f,h⟩=>⟨a,b,c,d,e,f,g h⟩
theorem Oj{A B C D E G G':Prop}(g:G→G'):(A∧B∧C∧D∧E∧G)→(A∧B∧C∧D∧E∧G'):=fun⟨a,b,c,d,e,h⟩=>⟨a,b,c,d,e,g h⟩
theorem Fv{op:BinOp}{t:TypeId}{u v:Value}{K K':Value→Prop}(hk:∀r,K r→K' r)(h:dE P op t u v K):dE P op t u v K':=by
 unfold dE at h⊢
 repeat' (split at h)
 all_goals first|exact h.elim|exact hk _ h|exact⟨h.1,hk _ h.2⟩|exact⟨h.1,h.2.1,hk _ h.2.2⟩|(obtain⟨r,h1,h2⟩:=h;first|exact⟨r,h1,hk _ h2⟩|(simp_all;done))
 all_goals exact⟨_,h.choose_spec.1,hk _ h.choose_spec.2⟩
theorem Ih{op:UnOp}{u:Value}{K K':Value→Prop}(hk:∀r,K r→K' r)(h:FK op u K):FK op u K':=by
 cases op<;>cases u<;>first|exact h.elim|exact hk _ h|exact⟨h.1,hk _ h.2⟩
theorem nk{b:Builtin}{args:List Operand}{tys:List TypeId}{K K':AV→aa→Prop}(hk:∀r H,K r H→K' r H)(h:df P s H b args tys K):df P s H b args tys K':=by
 unfold df at h⊢
 repeat' (split at h)
 all_goals first|exact h.elim|exact hk _ _ h|exact⟨h.1,hk _ _ h.2⟩|exact⟨h.1,h.2.1,hk _ _ h.2.2⟩|exact⟨h.1,h.2.1,h.2.2.1,hk _ _ h.2.2.2⟩|exact Oj (hk _ _) h|exact Lz (hk _ _) h|(simp_all;done)
theorem zY{k:Nat}{lo:Option Int}{hi:Nat→Option Int}{x:AV}{K K':AV→aa→Prop}(hk:∀r H,K r H→K' r H)(h:eB H k lo hi K x):eB H k lo hi K' x:=by
 cases x with
 |d u=>
  cases u with
  |v _=>exact h.elim
  |list nn es=>
   simp only[eB]at h⊢
   refine⟨h.1,?_⟩
   replace h:=h.2
   cases lo with
   |none=>exact h
   |some l=>
    cases hq:hi es.length with
    |none=>rw[hq]at h;exact h
    |some m=>rw[hq]at h;exact⟨h.1,h.2.1,h.2.2.1,hk _ _ h.2.2.2⟩
 |sl id ver off len=>
  simp only[eB]at h⊢
  cases ho:H[id]? with
  |none=>rw[ho]at h;exact h.elim
  |some o=>
   rw[ho]at h
   cases lo with
   |none=>exact h.elim
   |some l=>
    cases hq:hi len with
    |none=>rw[hq]at h;exact h.elim
    |some m=>rw[hq]at h;exact⟨h.1,h.2.1,h.2.2.1,h.2.2.2.1,h.2.2.2.2.1,hk _ _ h.2.2.2.2.2⟩
 |_=>exact h.elim
theorem xH{k:Nat}{lo hi mx:Option Int}{x:AV}{K K':AV→aa→Prop}(hk:∀r H,K r H→K' r H)(h:iq H k lo hi mx K x):iq H k lo hi mx K' x:=by
 cases x with
 |d u=>
  cases u with
  |v _=>exact h.elim
  |list nn es=>cases lo<;>cases hi<;>cases mx<;>first|exact h.2.elim|exact⟨h.1,h.2.1,h.2.2.1,h.2.2.2.1,h.2.2.2.2.1,hk _ _ h.2.2.2.2.2⟩
 |_=>exact h.elim
theorem xj{t:TypeId}{ok:Bool}{v:Option Value}{K K':AV→aa→Prop}(hk:∀r H,K r H→K' r H)(h:ga P t ok H K v):ga P t ok H K' v:=by
 unfold ga at h⊢
 cases e:mB P t ok v with
 |none=>rw[e]at h;exact h.2.elim
 |some r=>rw[e]at h;exact⟨h.1,hk _ _ h.2⟩
theorem Et{n:Nat}{x:AV}{K K':AV→aa→Prop}(hk:∀r H,K r H→K' r H)(h:zw H n K x):zw H n K' x:=by
 cases x with
 |dt ds=>exact⟨h.1,hk _ _ h.2⟩
 |_=>exact h.elim
theorem yY{hi:Bool}{op:Op}{K K':AV→aa→Prop}(hk:∀r H,K r H→K' r H)(h:iQ P s H hi op K):iQ P s H hi op K':=by
 unfold iQ at h⊢
 repeat' (split at h)
 all_goals first|exact h.elim|(rw[if_pos (by assumption)];obtain⟨h1,id,e',h2,h3⟩:=h;exact⟨h1,id,e',h2,hk _ _ h3⟩)|(rw[if_neg (by assumption)];exact⟨h.1,hk _ _ h.2⟩)|exact hk _ _ h|exact⟨h.1,hk _ _ h.2⟩|exact⟨h.1,h.2.1,hk _ _ h.2.2⟩|exact⟨h.1,h.2.1,h.2.2.1,hk _ _ h.2.2.2⟩|exact Lz (hk _ _) h|exact Fv (fun r=>hk _ _) h|exact Ih (fun r=>hk _ _) h|exact nk hk h|exact zY hk h|exact⟨h.1,h.2.1,Et hk h.2.2⟩|exact xH hk h|exact xj hk h|exact⟨h.1,fun g=>hk _ _ (h.2.1 g),fun j e g1 g2=>hk _ _ (h.2.2 j e g1 g2)⟩|skip
 all_goals first|(rw[if_neg (by assumption)];exact⟨h.1,by first|(rw[if_pos (by assumption)];exact hk _ _ h.2)|(rw[if_neg (by assumption)];exact hk _ _ h.2)⟩)|(simp_all;done)
theorem rK{o:Oper}{K K':AV→aa→Prop}{KP KP':Value→aa→Prop}(hk:∀r H,K r H→K' r H)(hp:∀r H,KP r H→KP' r H)(h:aN P hint s H o K KP):aN P hint s H o K' KP':=by
 unfold aN at h⊢
 split at h
 ·split at h
  ·exact hp _ _ h
  ·exact h.elim
 ·split at h
  ·split at h
   ·obtain⟨res,H',hd,h⟩:=h
    refine⟨res,H',hd,?_⟩
    cases res with
    |ok r=>exact hk _ _ h
    |panic v=>exact hp _ _ h
   ·obtain⟨hy,R,hR,h⟩:=h
    exact⟨hy,R,hR,fun b H' hb=>hk _ _ (h b H' hb)⟩
   ·exact h.elim
  ·exact nk hk h
  ·exact h.elim
 ·exact yY hk h
theorem kQ{n:Nat}{ops:Array Oper}{Q Q':bH}{o:Oper}{K K':(Nat→AV)→aa→Prop}(hq:∀v s H,Q (.panic v) s H→Q' (.panic v) s H)(hk:∀s H,K s H→K' s H)(h:ek P hint n ops Q o K s H):ek P hint n ops Q' o K' s H:=by
 unfold ek at h⊢
 split at h
 ·exact rK (fun r H=>hk _ _) (fun v H=>hq _ _ _) h
 ·split at h
  ·split at h
   ·rw[if_pos (by assumption)]
    exact rK (fun r H=>hk _ _) (fun v H=>hq _ _ _) h
   ·rw[if_neg (by assumption)]
    exact hk _ _ h
  ·exact h.elim
theorem oA{n:Nat}{ops:Array Oper}{Q Q':bH}(hq:∀e s H,Q e s H→Q' e s H):∀(l:List Oper) (s:Nat→AV) (H:aa),bK P hint n ops Q l s H→bK P hint n ops Q' l s H
 |[],s,H,h=>hq _ _ _ h
 |o::rest,s,H,h=>kQ (fun v=>hq _) (fun s H=>oA hq rest s H) h
theorem lO{n:Nat}{ops:Array Oper}{Q Q':bH}(hq:∀e s H,Q e s H→Q' e s H):∀(fuel:Nat) (l:Array Bool) (s:Nat→AV) (H:aa),iM P hint n ops Q fuel l s H→iM P hint n ops Q' fuel l s H
 |0,l,s,H,h=>⟨h.1,hq _ _ _ h.2⟩
 |fuel+1,l,s,H,h=>by
  refine⟨fun hr=>hq _ _ _ (h.1 hr),fun i hi=>?_⟩
  have:=h.2 i hi
  split at this
  ·exact lO hq fuel _ _ _ this
  ·exact kQ (fun v=>hq _) (fun s H=>lO hq fuel _ s H) this
theorem kp{n:Nat}{H0:aa}:∀(c:Code) {Q Q':bH} (hq:∀e s H,Q e s H→Q' e s H) (s:Nat→AV) (H:aa),dQ P hint n H0 c Q s H→dQ P hint n H0 c Q' s H:=by
 intro c
 induction c with
 |skip=>exact fun hq s H h=>hq _ _ _ h
 |label l=>exact fun hq s H h=>hq _ _ _ h
 |scope x ih=>exact fun hq s H h=>ih hq s H h
 |region id ops draw=>
  intro Q Q' hq s H h
  cases draw with
  |false=>exact oA hq _ _ _ h
  |true=>exact⟨h.1,lO hq _ _ _ _ h.2⟩
 |seq x y ihx ihy=>
  intro Q Q' hq s H h
  refine ihx (fun e s H h=>?_) s H h
  cases e with
  |normal=>
   have h:if fu hint y=true then ∃s'' H'',ay H0 s H s'' H''∧dQ P hint n H0 y Q s'' H'' else dQ P hint n H0 y Q s H:=h
   show if fu hint y=true then ∃s'' H'',ay H0 s H s'' H''∧dQ P hint n H0 y Q' s'' H'' else dQ P hint n H0 y Q' s H
   split at h
   ·rw[if_pos (by assumption)]
    obtain⟨s'',H'',hW,h⟩:=h
    exact⟨s'',H'',hW,ihy hq s'' H'' h⟩
   ·rw[if_neg (by assumption)]
    exact ihy hq s H h
  |_=>exact hq _ _ _ h
 |cond c x y ihx ihy=>
  intro Q Q' hq s H h
  unfold dQ at h⊢
  split at h
  ·split at h
   ·rw[if_pos (by assumption)];exact ihx hq s H h
   ·rw[if_neg (by assumption)];exact ihy hq s H h
  ·exact h.elim
 |block id x ih=>
  intro Q Q' hq s H h
  refine ih (fun e s H h=>?_) s H h
  cases e with
  |exit i=>
   show if i=id then Q' .normal s H else Q' (.exit i) s H
   have h:if i=id then Q .normal s H else Q (.exit i) s H:=h
   split at h
   ·rw[if_pos (by assumption)];exact hq _ _ _ h
   ·rw[if_neg (by assumption)];exact hq _ _ _ h
  |_=>exact hq _ _ _ h
 |loop x ih=>
  intro Q Q' hq s H h
  obtain⟨I,m,h1,h2⟩:=h
  refine⟨I,m,h1,fun m s H hI=>ih (fun e s H h=>?_) s H (h2 m s H hI)⟩
  cases e with
  |normal=>exact h
  |_=>exact hq _ _ _ h
 |exit id=>exact fun hq s H h=>hq _ _ _ h
 |ret=>exact fun hq s H h=>hq _ _ _ h
 |rangeFunc g ps x y=>
  intro Q Q' hq s H h
  obtain⟨hm,hint',gf,caps,xs,C,I,Ix,s0,H1,g1,g2,g3,g4,g5,g6,g7,g8,g9,g10⟩:=h
  exact⟨hm,hint',gf,caps,xs,C,I,Ix,s0,H1,g1,g2,g3,g4,g5,g6,g7,g8,fun Hn h=>hq _ _ _ (g9 Hn h),fun e Hx h=>hq _ _ _ (g10 e Hx h)⟩
 |_=>intros;rename_i h;exact h.elim
end
section
variable (P:Program) (hint:Nat→Bool) (n:Nat) (H0:aa)
def rL(c:Operand)(b:Bool)(R:(Nat→AV)→aa→Prop):bH:=fun e s H=>match e with| .normal=>ao s c= .d (.v (.bool b))∧R s H|_=>False
theorem vR(c:Operand)(b:Bool)(R:(Nat→AV)→aa→Prop)(s:Nat→AV)(H:aa):rL c b R .normal s H=(ao s c= .d (.v (.bool b))∧R s H):=rfl
def tq(pR:Code)(b b':Nat)(R:(Nat→AV)→aa→Prop)(Q:bH):bH:=fun e s H=>match e with
 | .normal=>lI P hint n H0 pR (gU R (en b Q)) .normal s H
 | .exit i=>if i=b' then lI P hint n H0 pR (gU R (en b Q)) .normal s H else en b Q (.exit i) s H
 |e=>Q e s H
theorem vB(pR:Code)(b b':Nat)(R:(Nat→AV)→aa→Prop)(Q:bH)(s:Nat→AV)(H:aa):tq P hint n H0 pR b b' R Q .normal s H=lI P hint n H0 pR (gU R (en b Q)) .normal s H:=rfl
theorem se(pR:Code)(b b':Nat)(R:(Nat→AV)→aa→Prop)(Q:bH)(i:Nat)(s:Nat→AV)(H:aa):tq P hint n H0 pR b b' R Q (.exit i) s H=if i=b' then lI P hint n H0 pR (gU R (en b Q)) .normal s H else en b Q (.exit i) s H:=rfl
theorem Fp(pR:Code)(b b':Nat)(R:(Nat→AV)→aa→Prop)(Q:bH)(s:Nat→AV)(H:aa):tq P hint n H0 pR b b' R Q .ret s H=Q .ret s H:=rfl
end
attribute [go_sem] vR vB se Fp
def oU(x:Option Bool)(A B:Prop):Prop:=match x with|some true=>A|some false=>B|none=>False
theorem Bz(A B:Prop):oU (some true) A B=A:=rfl
theorem ya(A B:Prop):oU (some false) A B=B:=rfl
theorem xX{x y:Option Bool}{A B:Prop}(h:nf x=y):oU x A B=oU y A B:=by rw[←h];rfl
theorem G4{P:Program}{hint:Nat→Bool}{n:Nat}{H0:aa}(c:Operand)(x y:Code)(Q:bH)(s:Nat→AV)(H:aa):dQ P hint n H0 (.cond c x y) Q s H=oU (NT (ao s c)) (dQ P hint n H0 x Q s H) (dQ P hint n H0 y Q s H):=by
 rw[rP]
 generalize ao s c=v
 cases v with
 |d u=>
  cases u with
  |v z=>cases z<;>first|rfl|(rename_i b;cases b<;>rfl)
  |list _ _=>rfl
 |_=>rfl
theorem fc{x:Option Bool}{A B:Prop}(hc:x=some true)(h:A):oU x A B:=by rw[hc];exact h
theorem eQ{x:Option Bool}{A B:Prop}(hc:x=some false)(h:B):oU x A B:=by rw[hc];exact h
attribute [go_sem] Bz ya
def HJ:Option aT→Option (TypeId×Nat×Nat×List (List D))
 |some (.arr e k ver es)=>some (e,k,ver,es)
 |_=>none
theorem Fu(e:TypeId)(k ver:Nat)(es:List (List D)):HJ (some (.arr e k ver es))=some (e,k,ver,es):=rfl
theorem EM(H:aa)(e:TypeId)(k b:Nat)(news:List (List D))(K:AV→aa→Prop)(id ver len:Nat):qH H e k b news K (.sl id ver 0 len)=ob (HJ H[id]?) fun a=>
  (a.1=e∧a.2.1=k∧a.2.2.1=ver∧a.2.2.2.length=len)∧(a.2.2.2.length+news.length)* b≤140737488355328∧a.2.2.2.length+news.length≤9223372036854775807∧
    K (.sl id (ver+1) 0 (a.2.2.2.length+news.length)) (H.set id (.arr e k (ver+1) (a.2.2.2++news))):=by
 simp only[qH]
 rcases H[id]? with _|o
 ·rfl
 ·cases o<;>rfl
theorem GD(l:List Value)(n:Nat)(h:l.length=n):l.toArray.all Value.oneCell' 0 n=l.all Value.oneCell':=by subst h;simp
attribute [go_sem] GD Int.cast_ofNat_Int
theorem yS{P:Program}{t:TypeId}(a b:Bool)(K:Value→Prop)(h:P.underlying t=some .bool):dE P .neq t (.bool a) (.bool b) K=K (.bool (a !=b)):=by
 have hp:cy P .neq t (.bool a) (.bool b) (.bool (a !=b)):=fun x y w=>by
  have he:(Op.equal t (.bool a) (.bool b)).run P w= .ok (a==b) w:=run_equalIn_bool w 9999 t a b h
  simp only[binOp]
  simp[eqGuard,he]
  cases a<;>cases b<;>rfl
 have:dE P .neq t (.bool a) (.bool b) K=∃r,cy P .neq t (.bool a) (.bool b) r∧K r:=by unfold dE;rfl
 rw[this]
 refine propext ⟨fun⟨r,hr,k⟩=>?_,fun k=>⟨_,hp,k⟩⟩
 have h1:=hr (.const .nilIface) (.const .nilIface) default
 rw[hp (.const .nilIface) (.const .nilIface) default]at h1
 cases h1;exact k
theorem vS{P:Program}{t:TypeId}(k:FloatKind)(a b:Nat)(K:Value→Prop):dE P .neq t (.float k a) (.float k b) K=K (.bool (k.format.order a b !=some .eq)):=by
 have hp:cy P .neq t (.float k a) (.float k b) (.bool (k.format.order a b !=some .eq)):=fun x y w=>by
  simp[eqGuard,binOp,Op.floatCmp]
 have:dE P .neq t (.float k a) (.float k b) K=∃r,cy P .neq t (.float k a) (.float k b) r∧K r:=by unfold dE;rfl
 rw[this]
 refine propext ⟨fun⟨r,hr,k⟩=>?_,fun k=>⟨_,hp,k⟩⟩
 have h1:=hr (.const .nilIface) (.const .nilIface) default
 rw[hp (.const .nilIface) (.const .nilIface) default]at h1
 cases h1;exact k
theorem isAny.get{P:Program}{t:TypeId}(h:isAny P t=true):∃ms,P.underlying t=some (.interface ms)∧ms.isEmpty=true:=by
 unfold isAny at h
 split at h
 ·rename_i ms hm;exact⟨ms,hm,h⟩
 ·cases h
theorem Iw{P:Program}{t:TypeId}{ms:Array (String×TypeId)}(hu:P.underlying t=some (.interface ms))(d:Nat)(w:World):(Op.equalIn (d+1) t .nilIface .nilIface).run P w= .ok true w:=by simp[Op.equalIn,run_underlying hu]
theorem DF{P:Program}{t:TypeId}{ms:Array (String×TypeId)}(hu:P.underlying t=some (.interface ms))(d:Nat)(w:World)(t':TypeId)(u:Value):(Op.equalIn (d+1) t (.iface t' u) .nilIface).run P w= .ok false w:=by simp[Op.equalIn,run_underlying hu]
theorem JG{P:Program}{t:TypeId}{ms:Array (String×TypeId)}(hu:P.underlying t=some (.interface ms))(hm:ms.isEmpty=true)(d:Nat)(w:World):(Op.eqGuardIn (d+1) t .nilIface .nilIface).run P w= .ok false w:=by simp[Op.eqGuardIn,run_underlying hu];simpa using hm
theorem CD{P:Program}{t:TypeId}(h:isAny P t=true):cy P .neq t .nilIface .nilIface (.bool false):=by
 obtain⟨ms,hu,hm⟩:=isAny.get h
 intro x y w
 have he:(Op.equal t .nilIface .nilIface).run P w= .ok true w:=Iw hu 9999 w
 have hg:(Op.eqGuardIn Op.maxDepth t .nilIface .nilIface).run P w= .ok false w:=JG hu hm 9999 w
 have hq:(eqGuard .neq t x y .nilIface .nilIface).run P w= .ok () w:=by
  cases x<;>cases y<;>simp[eqGuard,hg]
 rw[Sem.run_bind,hq]
 simp only[Result.andThen_ok,binOp]
 simp[he]
theorem vJ{P:Program}{t:TypeId}(h:isAny P t=true)(t':TypeId)(u:Value):cy P .neq t (.iface t' u) .nilIface (.bool true):=by
 obtain⟨ms,hu,hm⟩:=isAny.get h
 intro x y w
 have he:(Op.equal t (.iface t' u) .nilIface).run P w= .ok false w:=DF hu 9999 w t' u
 simp only[binOp]
 simp[eqGuard,he]
theorem OA{P:Program}{op:BinOp}{t:TypeId}{u v r:Value}(h:cy P op t u v r)(hf:∀K,dE P op t u v K=∃r,cy P op t u v r∧K r)(K:Value→Prop):dE P op t u v K=K r:=by
 rw[hf]
 refine propext ⟨fun⟨r',h',k⟩=>?_,fun k=>⟨r,h,k⟩⟩
 have h1:=h' (.const .nilIface) (.const .nilIface) default
 rw[h (.const .nilIface) (.const .nilIface) default]at h1
 cases h1;exact k
theorem Bf{P:Program}{t:TypeId}(K:Value→Prop)(h:isAny P t=true):dE P .neq t .nilIface .nilIface K=K (.bool false):=OA (CD h) (fun _=>rfl) K
theorem wg{P:Program}{t:TypeId}(t':TypeId)(u:Value)(K:Value→Prop)(h:isAny P t=true):dE P .neq t (.iface t' u) .nilIface K=K (.bool true):=OA (vJ h t' u) (fun _=>rfl) K
attribute [go_sem] yS vS Bf wg
theorem Ba(P:Program)(t:TypeId):j8 P t (.d (.v (.slice none 0 0)))=(SE P t).isSome:=rfl
theorem Bi(P:Program)(t:TypeId):j8 P t (.d (.v (.pointer none)))=gZ P t:=rfl
theorem yc(P:Program)(t:TypeId)(nn:Bool)(es:List (List D)):j8 P t (.d (.list nn es))=false:=rfl
theorem Ht(P:Program)(t:TypeId)(a b c d:Nat):j8 P t (.ptr a b c d)=false:=rfl
theorem BB(P:Program)(H:aa)(t:TypeId)(nn:Bool)(es:List (List D)):known P H t (.d (.list nn es))=((SE P t).isSome&&(nn|| !es.isEmpty)):=rfl
theorem Ep(P:Program)(H:aa)(t:TypeId)(id ver i j:Nat):known P H t (.ptr id ver i j)=(gZ P t&&(match H[id]? with|some o=>o.ver==ver|none=>false)):=rfl
theorem Je(P:Program)(H:aa)(t:TypeId)(x:Value):known P H t (.d (.v x))=false:=by cases x<;>rfl
theorem CK(P:Program)(H:aa)(t:TypeId)(x y:AV):nN P H .eql t x y=((j8 P t y&&known P H t x)||(j8 P t x&&known P H t y)):=by simp[nN]
theorem EI:r7 .eql=false:=rfl
attribute [go_sem] Ba Bi yc Ht BB Ep Je CK EI Option.isSome_some Option.isSome_none Bool.or_false Bool.false_or Bool.or_true Bool.true_or List.isEmpty_cons
theorem s5(a b:Int):(a==b)=decide (a=b):=by by_cases h:a=b<;>simp[h]
theorem tE(a b:Int):(a !=b)= !decide (a=b):=by by_cases h:a=b<;>simp[h]
attribute [go_sem] Int.natCast_add s5 tE List.all_map
theorem Cz(H:aa)(k m:Nat):(H.length+k<H.length+m)=(k<m):=by simp
theorem IZ(H:aa)(m:Nat):(H.length<H.length+m)=(0<m):=by simp
theorem I5(H:aa)(m:Nat):(H.length+m<H.length)=False:=by simp
theorem FU(m:Nat)(e:TypeId)(k ver:Nat)(es:List (List D)):(aT.arr e k ver es).below m=true:=rfl
theorem EJ(m:Nat)(e:TypeId)(k ver n:Nat)(cs:List AV):(aT.box e k ver n cs).below m=cs.all (kZ m):=rfl
theorem Gk(m:Nat)(x:D):kZ m (.d x)=true:=rfl
theorem E3(m id v i j:Nat):kZ m (.sl id v i j)=decide (id<m):=rfl
theorem KW(H:aa)(m:Nat)(f:FuncId)(cs:List AV):sx H m (.fn f cs)= .fn f (cs.map (mu H m)):=rfl
attribute [go_sem] FU EJ Gk E3 KW Cz IZ I5 Nat.lt_irrefl decide_eq_true_eq
theorem He(H:aa)(k:Nat)(i:Int)(id ver off len:Nat):jO H k i (.sl id ver off len)=if 0≤i∧i<len then(H[id]?).bind fun ob=>if ob.ver=ver∧ob.k=k∧ob.live=true then some (.ptr id ver (off+i.toNat) 0)else none else none:=rfl
theorem It(H:aa)(id ver off len:Nat):ko H (.sl id ver off len)=(HJ H[id]?).bind fun a=>if a.2.2.1=ver then some ((a.2.2.2.drop off).take len)else none:=by
 simp only[ko]
 rcases H[id]? with _|o
 ·rfl
 ·cases o<;>rfl
attribute [go_sem] He It BP DQ Cu
attribute [go_sem] Fu EM
section
variable {P:Program} {hint:Nat→Bool} {n:Nat} {H0:aa}
theorem bW{b b':Nat}{cR pR body:Code}{c:Operand}(I:Nat→(Nat→AV)→aa→Prop)(m:Nat){Q:bH}{s s':Nat→AV}{H H':aa}(hm:m≤9223372036854775807)(hW:ay H0 s H s' H')(h0:I 0 s' H')
  (step:∀k s H,k<m→IntKind.i64.wrap ((k:Int)+1)=(k:Int)+1→I k s H→dQ P hint n H0 cR (rL c true fun s H=>dQ P hint n H0 body (tq P hint n H0 pR b b' (fun s' H'=>∃s'' H'',ay H0 s' H' s'' H''∧I (k+1) s'' H'') Q) s H) s H)
  (done:∀s H,I m s H→dQ P hint n H0 cR (rL c false fun s H=>Q .normal s H) s H):
  dQ P hint n H0 (.loop (.seq cR (.seq (.cond c .skip (.exit b)) (.seq (.block b' body) pR)))) (en b Q) s H:=by
 refine cl P hint n H0 (fun k s H=>k≤m∧I k s H) (fun k=>m-k) 0 hW ⟨Nat.zero_le _,h0⟩ ?_
 rintro k s H ⟨hk,hI⟩
 rw[iT]
 by_cases hlt:k<m
 ·refine kp cR (fun e s H h=>?_) s H (step k s H hlt (wrap64_in _ (by omega) (by omega)) hI)
  cases e with
  |normal=>
   obtain⟨hc,h⟩:=h
   simp only[er,iT]
   rw[rP,hc]
   simp only[if_true,Ar,er,iT,uz]
   refine kp body (fun e s H h=>?_) s H h
   have fin:lI P hint n H0 pR (gU (fun s' H'=>∃s'' H'',ay H0 s' H' s'' H''∧I (k+1) s'' H'') (en b Q)) .normal s H→
     lI P hint n H0 pR (gU (fun s' H'=>∃s'' H'' y,ay H0 s' H' s'' H''∧(y≤m∧I y s'' H'')∧m-y<m-k) (en b Q)) .normal s H:=by
    have mon:∀s H,dQ P hint n H0 pR (gU (fun s' H'=>∃s'' H'',ay H0 s' H' s'' H''∧I (k+1) s'' H'') (en b Q)) s H→
      dQ P hint n H0 pR (gU (fun s' H'=>∃s'' H'' y,ay H0 s' H' s'' H''∧(y≤m∧I y s'' H'')∧m-y<m-k) (en b Q)) s H:=by
     refine fun s H=>kp pR (fun e s H h=>?_) s H
     cases e with
     |normal=>
      obtain⟨s'',H'',h1,h2⟩:=h
      exact⟨s'',H'',k+1,h1,⟨hlt,h2⟩,by omega⟩
     |_=>exact h
    rw[er,er]
    cases fu hint pR with
    |true=>exact fun⟨s2,H2,h1,h2⟩=>⟨s2,H2,h1,mon _ _ h2⟩
    |false=>exact mon s H
   cases e with
   |normal=>exact fin h
   |exit i=>
    rw[se]at h
    rw[jN]
    by_cases hi:i=b'
    ·rw[if_pos hi]at h⊢;exact fin h
    ·rw[if_neg hi]at h⊢;exact h
   |ret=>exact h
   |panic v=>exact h
  |_=>exact h.elim
 ·obtain rfl:k=m:=by omega
  refine kp cR (fun e s H h=>?_) s H (done s H hI)
  cases e with
  |normal=>
   obtain⟨hc,h⟩:=h
   simp only[er,iT]
   rw[rP,hc]
   simp only[Bool.false_eq_true,if_false,y7,uV]
   show en b Q (.exit b) s H
   rw[jN,if_pos rfl]
   exact h
  |_=>exact h.elim
theorem Dy(x y z:Code)(Q:bH)(s:Nat→AV)(H:aa):dQ P hint n H0 (.seq (.seq x y) z) Q s H=dQ P hint n H0 (.seq x (.seq y z)) Q s H:=by
 simp only[iT]
 congr 1
 funext e s H
 cases e<;>rfl
theorem sC{x y:Code}(h:∀Q s H,dQ P hint n H0 x Q s H=dQ P hint n H0 y Q s H)(Q:bH)(s:Nat→AV)(H:aa):dQ P hint n H0 (.loop x) Q s H=dQ P hint n H0 (.loop y) Q s H:=by
 unfold dQ
 simp only[h]
theorem aP{b b':Nat}{cR pR body:Code}{c:Operand}(I:Nat→(Nat→AV)→aa→Prop)(m:Nat){Q:bH}{s s':Nat→AV}{H H':aa}(hm:m≤9223372036854775807)(hW:ay H0 s H s' H')(h0:I 0 s' H')
  (step:∀k s H,k<m→IntKind.i64.wrap ((k:Int)+1)=(k:Int)+1→I k s H→dQ P hint n H0 cR (rL c true fun s H=>dQ P hint n H0 body (tq P hint n H0 pR b b' (fun s' H'=>∃s'' H'',ay H0 s' H' s'' H''∧I (k+1) s'' H'') Q) s H) s H)
  (done:∀s H,I m s H→dQ P hint n H0 cR (rL c false fun s H=>Q .normal s H) s H):
  dQ P hint n H0 (.loop (.seq (.seq cR (.cond c .skip (.exit b))) (.seq (.block b' body) pR))) (en b Q) s H:=by
 rw[sC fun Q s H=>Dy cR (.cond c .skip (.exit b)) (.seq (.block b' body) pR) Q s H]
 exact bW I m hm hW h0 step done
theorem ay.cut(gS T:aa)(m:Nat)(hm:gS.length=m)(s:Nat→AV)(h:gS.all (aT.below (H0.length+m))=true):ay H0 s (H0++(gS++T)) (fun t=>sx (H0++(gS++T)) (H0.length+m) (s t)) (H0++gS):=by
 subst hm
 have:=ay.zS (H0:=H0) s (H0++(gS++T)) (H0.length+gS.length) (by omega) (by simp) ?_
 ·rwa[show(H0++(gS++T)).take (H0.length+gS.length)=H0++gS from by rw[←List.append_assoc,←List.length_append,List.take_left]]at this
 ·intro i o hi ho
  rcases Nat.lt_or_ge i H0.length with h1|h1
  ·exact .inl (by rwa[List.getElem?_append_left h1]at ho)
  ·right
   rw[List.getElem?_append_right h1,List.getElem?_append_left (by omega)]at ho
   rw[List.all_eq_true]at h
   exact h o (List.mem_of_getElem? ho)
theorem c9.cut{I:(Nat→AV)→aa→Prop}{s:Nat→AV}{H:aa}(gS T:aa)(m:Nat)(hm:gS.length=m)(e:H=H0++(gS++T))(h:gS.all (aT.below (H0.length+m))=true)
  (hi:I (fun t=>sx H (H0.length+m) (s t)) (H0++gS)):∃s'' H'',ay H0 s H s'' H''∧I s'' H'':=by
 subst e
 exact⟨_,_,ay.cut gS T m hm s h,hi⟩
theorem c9.same{I:(Nat→AV)→aa→Prop}{s:Nat→AV}{H:aa}(h:I s H):∃s'' H'',ay H0 s H s'' H''∧I s'' H'':=⟨s,H,.refl _ _,h⟩
end
mutual
inductive Sub:AV→AV→Prop
 |refl (x:AV):Sub x x
 |top (x:AV):Sub x .top
 |nil:Sub (.d (.v (.slice none 0 0))) (.d (.list false []))
 |eS:Sub .eS (.d (.list false []))
 |nn (es:List (List D)):Sub (.d (.list true es)) (.d (.list false es))
 |agg {cs cs':List AV} (h:nA cs cs'):Sub (.agg cs) (.agg cs')
 |OI {x y:D} (h:∀N w v,RD N w x v→RD N w y v):Sub (.d x) (.d y)
inductive nA:List AV→List AV→Prop
 |nil:nA [] []
 |cons {x y:AV} {xs ys:List AV} (h:Sub x y) (t:nA xs ys):nA (x::xs) (y::ys)
end
theorem nA.len:∀{cs cs':List AV},nA cs cs'→cs.length=cs'.length
 |_,_,.nil=>rfl
 |_,_,.cons _ t=>by simp[nA.len t]
mutual
theorem Sub.ra{H:aa}{φ:bI}{N:Addr→Prop}{w:World}:∀{x y:AV} {v:Value},Sub x y→RA H φ N w x v→RA H φ N w y v
 |_,_,_,.refl _,h=>h
 |_,_,_,.top _,_=> .top _
 |_,_,v,.nil,h=>by rw[h.closed];exact .d (.nil _ _ fun _=>rfl)
 |_,_,_,.eS,h=>by cases h with|eS A=>exact .d (.nil _ _ fun _=>rfl)
 |_,_,_,.nn es,h=>by
  cases h with
  |d h=>
   cases h with
   |list nn es ad cap k c hc hk h hd=>exact .d (.list false es ad cap k c hc hk h hd)
 |_,_,_,.OI hs,h=>by
  cases h with
  |d h=>exact .d (hs _ _ _ h)
 |_,_,_,.agg hs,h=>by
  cases h with
  |agg cs vs hl hh=>exact .agg _ vs (hs.len.symm.trans hl) fun i h1 h2=>nA.ra hs i (by rw[hs.len];exact h1) h1 (hh i (by rw[hs.len];exact h1) h2)
theorem nA.ra{H:aa}{φ:bI}{N:Addr→Prop}{w:World}:∀{cs cs':List AV},nA cs cs'→∀(i:Nat) (h1:i<cs.length) (h2:i<cs'.length) {v:Value},RA H φ N w (cs[i]) v→RA H φ N w (cs'[i]) v
 |_,_,.nil,i,h1,_,_,_=>by simp at h1
 |_,_,.cons h t,0,_,_,_,g=>Sub.ra h g
 |_,_,.cons h t,i+1,h1,h2,v,g=>by
  simp only[List.getElem_cons_succ]at g⊢
  exact nA.ra t i _ _ g
end
theorem ag.sub{P:Program}{f:FuncId}{args args':List AV}{H H':aa}{res:lH}(hs:nA args args')(h:ag P f args' H res H'):ag P f args H res H':=
 fun φ N w vals hR hA=>h φ N w vals hR ⟨hs.len.symm.trans hA.1,fun i h1 h2=>hs.ra i (by rw[hs.len];exact h1) h1 (hA.2 i (by rw[hs.len];exact h1) h2)⟩
theorem ae.sub{P:Program}{f:FuncId}{args args':List AV}{H H':aa}{K:AV→aa→Prop}{KP:Value→aa→Prop}{r:AV}(hs:nA args args')(h:ag P f args' H (.ok r) H')(hk:K r H'):ae P f args H K KP:=ae.ok (h.sub hs) hk
attribute [go_sem] G4
attribute [congr] Hl AU BH FF xX
section
variable {P:Program} {hint:Nat→Bool} {n:Nat} {H0 H H':aa} {s:Nat→AV} {Q:bH} {ops:Array Oper}
@[congr] theorem Nq {c:Code} (h:nf H=H'):dQ P hint n H0 c Q s H=dQ P hint n H0 c Q s H':=by rw[←h];rfl
@[congr] theorem MY {l:List Oper} (h:nf H=H'):bK P hint n ops Q l s H=bK P hint n ops Q l s H':=by rw[←h];rfl
@[congr] theorem MM {o:Oper} {K:AV→aa→Prop} {KP:Value→aa→Prop} (h:nf H=H'):aN P hint s H o K KP=aN P hint s H' o K KP:=by rw[←h];rfl
@[congr] theorem Oi {rest:List Oper} {d:Option Tmp} {r r':AV} (g:nf r=r') (h:nf H=H'):LW P hint n ops Q rest s d r H=LW P hint n ops Q rest s d r' H':=by rw[←g,←h];rfl
@[congr] theorem MV {v:Value} (h:nf H=H'):Ge Q s v H=Ge Q s v H':=by rw[←h];rfl
@[congr] theorem MP {c:Code} {e:AX} (h:nf H=H'):lI P hint n H0 c Q e s H=lI P hint n H0 c Q e s H':=by rw[←h];rfl
@[congr] theorem Lm {i:Nat} {e:AX} (h:nf H=H'):en i Q e s H=en i Q e s H':=by rw[←h];rfl
@[congr] theorem Lw {R:(Nat→AV)→aa→Prop} {e:AX} (h:nf H=H'):gU R Q e s H=gU R Q e s H':=by rw[←h];rfl
@[congr] theorem LP {c:Operand} {b:Bool} {R:(Nat→AV)→aa→Prop} {e:AX} (h:nf H=H'):rL c b R e s H=rL c b R e s H':=by rw[←h];rfl
@[congr] theorem Lq {pR:Code} {b b':Nat} {R:(Nat→AV)→aa→Prop} {e:AX} (h:nf H=H'):tq P hint n H0 pR b b' R Q e s H=tq P hint n H0 pR b b' R Q e s H':=by rw[←h];rfl
@[congr] theorem MU {id:Nat} {args args':List AV} {K:AV→aa→Prop} (g:nf args=args') (h:nf H=H'):ES P id args H K=ES P id args' H' K:=by rw[←g,←h];rfl
@[congr] theorem Mp {f:FuncId} {args args':List AV} {K:AV→aa→Prop} {KP:Value→aa→Prop} (g:nf args=args') (h:nf H=H'):ae P f args H K KP=ae P f args' H' K KP:=by rw[←g,←h];rfl
@[congr] theorem MW {K:AV→aa→Prop} {r r':Value} (g:nf r=r') (h:nf H=H'):Hy K H r=Hy K H' r':=by rw[←g,←h];rfl
@[congr] theorem MO {rs:List Tmp} {res:lH} {H1:aa} {e:AX} (h:nf H=H'):aw rs H0 res H1 e s H=aw rs H0 res H1 e s H':=by rw[←h];rfl
@[congr] theorem MK {d:Option Tmp} {v:AV} {t t':Nat} (h:nf t=t'):cv n s d v t=cv n s d v t':=by rw[←h];rfl
theorem AK(l:List Oper):bK P hint n ops Q l.toArray.toList s H=bK P hint n ops Q l s H:=rfl
@[congr] theorem MS {op:BinOp} {t:TypeId} {u u' v v':Value} {K:Value→Prop} (g:nf u=u') (h:nf v=v'):dE P op t u v K=dE P op t u' v' K:=by rw[←g,←h];rfl
@[congr] theorem Nt {op:UnOp} {u u':Value} {K:Value→Prop} (g:nf u=u'):FK op u K=FK op u' K:=by rw[←g];rfl
@[congr] theorem Lj {k:Nat} {lo lo':Option Int} {hi hi':Nat→Option Int} {K:AV→aa→Prop} {x x':AV} (f:nf lo=lo') (g:nf x=x') (h:nf H=H') (e:∀n,hi n=hi' n):eB H k lo hi K x=eB H' k lo' hi' K x':=by rw[←f,←g,←h,funext e];rfl
@[congr] theorem K2 {k:Nat} {lo lo' hi hi' mx mx':Option Int} {K:AV→aa→Prop} {x x':AV} (f:nf lo=lo') (f2:nf hi=hi') (f3:nf mx=mx') (g:nf x=x') (h:nf H=H'):iq H k lo hi mx K x=iq H' k lo' hi' mx' K x':=by rw[←f,←f2,←f3,←g,←h];rfl
@[congr] theorem Kq {t:TypeId} {ok:Bool} {K:AV→aa→Prop} {v v':Option Value} (g:nf v=v') (h:nf H=H'):ga P t ok H K v=ga P t ok H' K v':=by rw[←g,←h];rfl
@[congr] theorem Mr {e:TypeId} {k b:Nat} {news news':List (List D)} {K:AV→aa→Prop} {x x':AV} (f:nf news=news') (g:nf x=x') (h:nf H=H'):qH H e k b news K x=qH H' e k b news' K x':=by rw[←f,←g,←h];rfl
end
attribute [go_sem] AK
end Go.Proofs.YtmbagpfmfiegkaaGreatAw

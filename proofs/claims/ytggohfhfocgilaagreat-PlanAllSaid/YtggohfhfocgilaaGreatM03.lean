/- Contracts of functions and lemmas for planAll_holds, part 3. -/
import Derived.RangeFuncRecord
import Derived.OrdersIn
import Derived.LoopNIn
import Derived.Test.YtggohfhfocgilaaGreatProg
import Derived.KernelRfl
import Derived.Test.YtggohfhfocgilaaGreatM02
set_option maxHeartbeats 8000000
set_option maxRecDepth 100000
set_option linter.all false
namespace Go.Proofs.YtggohfhfocgilaaGreatAw
open Go.RowKit
inductive AX where
 |normal
 |exit (id:Nat)
 |ret
 |panic (v:Value)
def AX.C2:AX→Exit
 | .normal=> .normal
 | .exit id=> .exit id
 | .ret=> .ret
 | .panic v=> .panic [{v:=v,recovered:=false}]
abbrev aQ:=AX→(Nat→AV)→aa→Prop
def AX.jump:AX→Option Code
 | .ret=>some .ret
 | .exit id=>some (.exit id)
 |_=>none
inductive jF (m:Nat):AV→Prop
 |top:jF m .top
 |d (x:D):jF m (.d x)
 |di:jF m .di
 |ptr (id ver i j:Nat) (h:id<m):jF m (.ptr id ver i j)
 |cc (cs:List D):jF m (.cc cs)
 |sl (id ver off len:Nat) (h:id<m):jF m (.sl id ver off len)
 |agg (cs:List AV) (h:∀i (hi:i<cs.length),jF m (cs[i])):jF m (.agg cs)
 |a7 (cs:List AV) (h:∀i (hi:i<cs.length),jF m (cs[i])):jF m (.a7 cs)
 |fn (f:FuncId) (cs:List AV) (h:∀i (hi:i<cs.length),jF m (cs[i])):jF m (.fn f cs)
 |mp (id:Nat) (h:id<m):jF m (.mp id)
 |gq (id:Nat) (h:id<m):jF m (.gq id)
abbrev AT(m:Nat)(o:ay):Prop:=(∀e k ver n cs,o= .box e k ver n cs→∀c∈cs,jF m c)∧(∀kk es,o= .mp kk es→∀e∈es,jF m e.2)∧(∀m' since seen,o= .iter m' since seen→m'<m)∧∀r s,o= .lp r s→∀t,jF m (s t)
def kC(m:Nat)(H:aa):Prop:=∀(i:Nat) (o:ay),H[i]?=some o→AT m o
def tI(P:Program)(G:aa)(id:Nat)(args:List AV)(R:Bool→aa→Prop):Prop:=
 (∃r s,G[id]?=some (.lp r s))∧∀(φ:aK) (N:Addr→Prop) (w:World) (vals:Array Value) (B c:Nat),Rel G φ N w→p8 G φ N w args vals→φ id=some (B,c)→
  ∃fn tmps assign body,(Instr.yield B vals).run P w= .ok (.round B fn tmps assign body) w∧RoundIn Fence.wide 0 P B fn tmps assign body w fun e w'=>
   ∃b H' φ' N',e= .returned (.bool b)∧R b H'∧Rel H' φ' N' w'∧au G φ N w H' φ' N' w'
def oP(P:Program)(f:FuncId)(args:List AV)(H:aa)(R:mv→aa→Prop):Prop:=
 ∀(φ:aK) (N:Addr→Prop) (w:World) (vals:Array Value),Rel H φ N w→p8 H φ N w args vals→
  (callFunc f vals).run P w= .ok (.enter f vals) w∧Calls P f vals w fun e w'=>∃res H' φ' N',R res H'∧Rel H' φ' N' w'∧au H φ N w H' φ' N' w'∧pS H' φ' N' w' res e
def qU(r:Loop)(c:Code):Loop:={r with state:= .done,pending:=some c}
def mz(P:Program)(gf:FuncId)(caps:List AV)(C:aa→Prop)(xs:List (List AV)):Prop:=
 ∀(r:Loop) (s:Nat→AV) (J:Nat→aa→Prop) (Jx:Code→aa→Prop) (m:Nat) (Hs:aa),J 0 Hs→(∀t,jF m (s t))→(∀k Hk,J k Hk→C Hk∧kC m Hk∧Hk.length=m)→
  (∀k (hk:k<xs.length) Hk T,J k Hk→tI P (Hk++ .lp r s::T) m (xs[k]) fun b G=>if b=true then ∃Hk',J (k+1) Hk'∧G=Hk'++ .lp r s::T else ∃Hk' c,Jx c Hk'∧kC m Hk'∧Hk'.length=m∧G=Hk'++ .lp (qU r c) s::T)→
  oP P gf (.gq m::caps) (Hs++[.lp r s]) fun res G=>res= .ok (.a7 [])∧((∃Hn,J xs.length Hn∧G=Hn++[.lp r s])∨∃Hx c,Jx c Hx∧Hx.length=m∧G=Hx++[.lp (qU r c) s])
def bp(n:Nat)(s:Nat→AV)(d:Option Tmp)(v:AV):Nat→AV:=
 match d with
 |some d=>fun t=>if t=d then(if d<n then v else .top)else s t
 |none=>s
def aB(P:Program)(hint:Nat→Bool)(s:Nat→AV)(H:aa)(o:Oper)(K:AV→aa→Prop)(KP:Value→aa→Prop):Prop:=
 match o.op with
 | .panic x=>(match closed (ah s x)with|some (.iface t u)=>KP (.iface t u) H|_=>False)
 | .call c=>(match c.callee with
  | .value f=>(match ah s f with
   | .fn g caps=>∃res H',ag P g (c.args.toList.map (ah s)++caps) H res H'∧(match res with| .ok r=>K r H'| .panic v=>KP v H')
   | .gq id=>hint 3000000=true∧∃R,tI P H id (c.args.toList.map (ah s)) R∧∀b H',R b H'→K (.d (.v (.bool b))) H'
   |_=>False)
  | .builtin b=>b7 P s H b c.args.toList c.argTypes.toList K
  |_=>False)
 |op=>gJ P s H (match o.dst with|some d=>hint d|none=>false) op K
def HQ(want:Bool):AV→Option Bool
 | .d (.v (.bool b))=>some (b==want)
 | .a7 []=>some false
 |_=>none
def fx(ops:Array Oper)(s:Nat→AV)(n:Nat)(j:Nat)(want:Bool):Option Bool:=
 match(ops[j]?).bind (·.dst)with
 |some d=>if d<n then HQ want (s d)else none
 |none=>none
def cN(P:Program)(hint:Nat→Bool)(n:Nat)(ops:Array Oper)(Q:aQ)(o:Oper)(K:(Nat→AV)→aa→Prop)(s:Nat→AV)(H:aa):Prop:=
 match o.guard with
 |none=>aB P hint s H o (fun r H'=>K (bp n s o.dst r) H') fun v H'=>Q (.panic v) s H'
 |some (j,want)=>(match fx ops s n j want with
  |some b=>if b=true then aB P hint s H o (fun r H'=>K (bp n s o.dst r) H') (fun v H'=>Q (.panic v) s H')else K (bp n s o.dst (.a7 [])) H
  |none=>False)
def aN(P:Program)(hint:Nat→Bool)(n:Nat)(ops:Array Oper)(Q:aQ):List Oper→(Nat→AV)→aa→Prop
 |[],s,H=>Q .normal s H
 |o::rest,s,H=>cN P hint n ops Q o (aN P hint n ops Q rest) s H
def fu(P:Program)(hint:Nat→Bool)(n:Nat)(ops:Array Oper)(Q:aQ):Nat→Array Bool→(Nat→AV)→aa→Prop
 |0,listed,s,H=>Region.ready .any ops listed=[]∧Q .normal s H
 |fuel+1,listed,s,H=>(Region.ready .any ops listed=[]→Q .normal s H)∧
   ∀i∈Region.ready .any ops listed,match ops[i]? with
    |none=>fu P hint n ops Q fuel (listed.setIfInBounds i true) s H
    |some o=>cN P hint n ops Q o (fu P hint n ops Q fuel (listed.setIfInBounds i true)) s H
def lh(H:aa)(m:Nat):AV→AV
 | .ptr id v i j=>if id<m then .ptr id v i j else .top
 | .mp id=>if id<m then .mp id else .top
 | .gq id=>if id<m then .gq id else .top
 | .sl id v off len=>if id<m then .sl id v off len else match H[id]? with
  |some (.arr _ _ ver es)=>if ver=v then .d (.list false ((es.drop off).take len))else .top
  |_=> .top
 | .agg _=> .top
 | .a7 _=> .top
 | .fn f []=> .fn f []
 | .fn _ _=> .top
 |x=>x
def GP(H:aa)(m:Nat):AV→AV
 | .agg cs=> .agg (cs.map (lh H m))
 | .fn f cs=> .fn f (cs.map (lh H m))
 |x=>lh H m x
def pZ(H:aa)(m:Nat):AV→AV
 | .a7 cs=> .a7 (cs.map (GP H m))
 |x=>GP H m x
def iN(m:Nat):AV→Bool
 | .ptr id _ _ _=>decide (id<m)
 | .mp id=>decide (id<m)
 | .gq id=>decide (id<m)
 | .sl id _ _ _=>decide (id<m)
 | .agg _=>false
 | .a7 _=>false
 | .fn _ cs=>cs.isEmpty
 |_=>true
def ga(m:Nat):AV→Bool
 | .agg cs=>cs.all (iN m)
 | .fn _ cs=>cs.all (iN m)
 |x=>iN m x
def ay.below(m:Nat):ay→Bool
 | .arr _ _ _ _=>true
 | .box _ _ _ _ cs=>cs.all (ga m)
 | .mp _ es=>es.all fun e=>ga m e.2
 | .dead _=>true
 | .iter m' _ _=>decide (m'<m)
 | .lp _ _=>false
inductive ak (H0:aa):(Nat→AV)→aa→(Nat→AV)→aa→Prop
 |refl (s:Nat→AV) (H:aa):ak H0 s H s H
 |uF (s:Nat→AV) (H:aa) (m:Nat) (hm:H0.length≤m) (hl:m≤H.length) (h:∀i o,i<m→H[i]?=some o→H0[i]?=some o∨o.below m=true):ak H0 s H (fun t=>pZ H m (s t)) (H.take m)
 |more (s:Nat→AV) (H:aa) (e:TypeId) (k:Nat) (hk:0<k):ak H0 s H s (H++[.arr e k 0 []])
 |Fu (s:Nat→AV) (H:aa) (t id:Nat) (e:TypeId) (k ver n:Nat) (ds:List D) (ho:H[id]?=some (.box e k ver n (ds.map AV.d))) (hs:s t= .ptr id ver 0 0):ak H0 s H (fun u=>if u=t then .cc ds else s u) (H.set id (.arr e k (ver+1) []))
 |df (s:Nat→AV) (H:aa) (id:Nat) (e0:TypeId) (k0 ver m:Nat) (cs:List AV) (j:Nat) (x:AV) (e:TypeId) (k:Nat) (hk:0<k) (ho:H[id]?=some (.box e0 k0 ver m cs)) (hj:cs[j]?=some x) (hx:isNone x=true):
   ak H0 s H s (H.set id (.box e0 k0 ver m (cs.set j (.sl H.length 0 0 0)))++[.arr e k 0 []])
 |kF (s:Nat→AV) (H:aa) (id k0 ver m j id' ver' off len k:Nat) (e0 e:TypeId) (cs:List AV) (es:List (List D)) (ho:H[id]?=some (.box e0 k0 ver m cs)) (hj:cs[j]?=some (.sl id' ver' off len)) (ho':H[id']?=some (.arr e k ver' es)):
   ak H0 s H s ((H.set id' (.arr e k (ver'+1) [])).set id (.box e0 k0 ver m (cs.set j (.d (.list false ((es.drop off).take len))))))
 |xD (s:Nat→AV) (H:aa) (id:Nat) (e:TypeId) (k ver:Nat) (es:List (List D)) (ho:H[id]?=some (.arr e k ver es)) (hne:es≠[]):ak H0 s H s (H.set id (.box e k ver es.length (es.flatten.map AV.d)))
 |xd (s:Nat→AV) (H:aa) (id:Nat) (e:TypeId) (k ver:Nat) (es:List (List D)) (ho:H[id]?=some (.box e k ver es.length (es.flatten.map AV.d))) (hk:∀c∈es,c.length=k):ak H0 s H s (H.set id (.arr e k ver es))
 |y6 (s:Nat→AV) (H:aa) (t:Nat) (e:TypeId) (k ver:Nat) (hk:0<k) (h:isNone (s t)=true):ak H0 s H (fun u=>if u=t then .sl H.length ver 0 0 else s u) (H++[.arr e k ver []])
 |imp (s s':Nat→AV) (H:aa) (h:∀φ N w u v,RA H φ N w (s u) v→RA H φ N w (s' u) v):ak H0 s H s' H
 |CS (s:Nat→AV) (H:aa) (m:Nat) (hm:H0.length≤m) (hl:m≤H.length) (h:∀i o,i<m→H[i]?=some o→H0[i]?=some o∨AT m o):ak H0 s H (fun t=>pZ H m (s t)) (H.take m)
 |trans {s1 s2 s3:Nat→AV} {H1 H2 H3:aa} (h:ak H0 s1 H1 s2 H2) (g:ak H0 s2 H2 s3 H3):ak H0 s1 H1 s3 H3
def De:Code→Option Nat
 | .region id _ _=>some id
 | .seq x _=>De x
 |_=>none
def dz(hint:Nat→Bool)(c:Code):Bool:=match De c with|some r=>hint (r+1000000)|none=>false
def iT(n:Nat)(s:Nat→AV)(ps:List Tmp)(xs:List AV):Nat→AV:=(ps.zip xs).foldl (fun s p=>bp n s (some p.1) p.2) s
def cE(P:Program):(Nat→Bool)→Nat→aa→Code→aQ→(Nat→AV)→aa→Prop
 |_,_,_,.skip,Q,s,H=>Q .normal s H
 |_,_,_,.label _,Q,s,H=>Q .normal s H
 |hint,n,H0,.scope x,Q,s,H=>cE P hint n H0 x Q s H
 |hint,n,_,.region _ ops draw,Q,s,H=>if draw then P.follows .mixedOrders=true∧fu P hint n ops Q ops.size (Array.replicate ops.size false) s H else aN P hint n ops Q ops.toList s H
 |hint,n,H0,.seq x y,Q,s,H=>cE P hint n H0 x (fun e s' H'=>match e with| .normal=>(if dz hint y=true then ∃s'' H'',ak H0 s' H' s'' H''∧cE P hint n H0 y Q s'' H'' else cE P hint n H0 y Q s' H')|e=>Q e s' H') s H
 |hint,n,H0,.cond c x y,Q,s,H=>(match ah s c with| .d (.v (.bool b))=>if b=true then cE P hint n H0 x Q s H else cE P hint n H0 y Q s H|_=>False)
 |hint,n,H0,.block id x,Q,s,H=>cE P hint n H0 x (fun e s' H'=>match e with| .exit i=>if i=id then Q .normal s' H' else Q (.exit i) s' H'|e=>Q e s' H') s H
 |hint,n,H0,.loop x,Q,s,H=>∃(I:Nat→(Nat→AV)→aa→Prop) (m:Nat),(∃s' H',ak H0 s H s' H'∧I m s' H')∧
   ∀m s H,I m s H→cE P hint n H0 x (fun e s' H'=>match e with| .normal=>∃s'' H'' m',ak H0 s' H' s'' H''∧I m' s'' H''∧m'<m|e=>Q e s' H') s H
 |_,_,_,.exit id,Q,s,H=>Q (.exit id) s H
 |_,_,_,.ret,Q,s,H=>Q .ret s H
 |hint,n,H0,.rangeFunc g ps x y,Q,s,H=>hint 2000000=true∧∃(hint':Nat→Bool) (gf:FuncId) (caps:List AV) (xs:List (List AV)) (C:aa→Prop) (I:Nat→aa→Prop) (Ix:AX→aa→Prop) (s0:Nat→AV) (H1:aa),
   hint' 2000000=false∧ak H0 s H s0 H1∧ah s0 g= .fn gf caps∧mz P gf caps C xs∧(∀v∈xs,v.length=ps.size∧∀u∈v,jF H1.length u)∧I 0 H1∧(∀k Hk,I k Hk→C Hk∧Hk.length=H1.length)∧
   (∀k (hk:k<xs.length) Hk,I k Hk→cE P hint' n Hk x (fun e s1 H2=>match e with
    | .normal=>cE P hint' n Hk y (fun e s2 H3=>∃s3 H4,ak Hk s2 H3 s3 H4∧H4.length=H1.length∧(match e with| .normal=>I (k+1) H4| .panic _=>False|e=>Ix e H4)) s1 H2
    |_=>False) (iT n s0 ps.toList (xs[k])) Hk)∧
   (∀Hn,I xs.length Hn→Q .normal s0 Hn)∧∀e Hx,Ix e Hx→Q e s0 Hx
 |_,_,_,_,_,_,_=>False
structure DS where
 marks:Bool
 l:List Deferred
def Marks(b0:Nat)(H:aa)(φ:aK)(w:World):List Deferred→Prop
 |[]=>True
 |d::ds=>(∃D,b0≤D∧d={target:= .collected D,args:=#[]}∧w.heap[D]?=some (.deferred (some []))∧(∀id c,id<H.length→φ id≠some (D,c))∧∀d'∈ds,d'≠d)∧Marks b0 H φ w ds
theorem Marks.mono{b0:Nat}{H H':aa}{φ φ':aK}{w w':World}(h:∀D,D<w.heap.size→b0≤D→w.heap[D]?=some (.deferred (some []))→(∀id c,id<H.length→φ id≠some (D,c))→w'.heap[D]?=w.heap[D]?∧∀id c,id<H'.length→φ' id≠some (D,c)):
  ∀{ds:List Deferred},Marks b0 H φ w ds→Marks b0 H' φ' w' ds
 |[],_=>trivial
 |d::ds,⟨⟨D,h0,h1,h2,h3,h4⟩,h5⟩=>by
  obtain⟨g1,g2⟩:=h D (Array.getElem?_eq_some_iff.1 h2).1 h0 h2 h3
  exact⟨⟨D,h0,h1,g1.trans h2,g2,h4⟩,Marks.mono h h5⟩
def jk(ds:DS)(b0:Nat)(H:aa)(φ:aK)(w:World)(l:List Deferred):Prop:=∃ms,l=ms++ds.l∧(ds.marks=false→ms=[])∧Marks b0 H φ w ms
theorem jk.refl{ds:DS}{b0:Nat}{H:aa}{φ:aK}{w:World}:jk ds b0 H φ w ds.l:=⟨[],rfl,fun _=>rfl,trivial⟩
theorem jk.eq{l l':List Deferred}{b0:Nat}{H:aa}{φ:aK}{w:World}(h:jk ⟨false,l⟩ b0 H φ w l'):l'=l:=by
 obtain⟨ms,h1,h2,_⟩:=h
 rw[h1,h2 rfl];rfl
theorem jk.mono{ds:DS}{b0:Nat}{H H':aa}{φ φ':aK}{w w':World}(h:∀D,D<w.heap.size→b0≤D→w.heap[D]?=some (.deferred (some []))→(∀id c,id<H.length→φ id≠some (D,c))→w'.heap[D]?=w.heap[D]?∧∀id c,id<H'.length→φ' id≠some (D,c))
  {l:List Deferred} (hl:jk ds b0 H φ w l):jk ds b0 H' φ' w' l:=by
 obtain⟨ms,h1,h2,h3⟩:=hl
 exact⟨ms,h1,h2,h3.mono h⟩
theorem jk.since{ds:DS}{b0:Nat}{H H':aa}{φ φ':aK}{N N':Addr→Prop}{w w':World}(hS:au H φ N w H' φ' N' w'){l:List Deferred}(hl:jk ds b0 H φ w l):jk ds b0 H' φ' w' l:=
 hl.mono fun D hD _ _ hn=>⟨hS.cM D hD hn,fun id c hid hp=>by
  obtain⟨id0,c0,h1,h2⟩:=hS.own id D c hid hp hD
  exact hn id0 c0 h1 h2⟩
structure Inv (H0:aa) (φ0:aK) (N0:Addr→Prop) (w0:World) (n:Nat) (ds:DS) (s:Nat→AV) (H:aa) (φ:aK) (N:Addr→Prop) (a:Act) (w:World):Prop where
 rel:Rel H φ N w
 tmps:bI H φ N w s a
 since:au H0 φ0 N0 w0 H φ N w
 size:a.tmps.size=n
 defers:jk ds w0.heap.size H φ w a.defers
section
variable {P:Program} {H0:aa} {φ0:aK} {N0:Addr→Prop} {w0:World} {n:Nat} {ds:DS} {hint:Nat→Bool}
def jX(H0:aa)(φ0:aK)(N0:Addr→Prop)(w0:World)(n:Nat)(ds:DS)(Q:aQ):Exit→Act→World→Prop:=fun e a w=>
 ∃x s H φ N,e=AX.C2 x∧Q x s H∧Inv H0 φ0 N0 w0 n ds s H φ N a w
theorem bI.put{H:aa}{φ:aK}{N:Addr→Prop}{w:World}{s:Nat→AV}{a:Act}(hT:bI H φ N w s a){d:Option Tmp}{r:AV}{x:Value}(hr:RA H φ N w r x)(hs:a.tmps.size=n):
  bI H φ N w (bp n s d r) (a.put d x):=by
 intro t
 cases d with
 |none=>exact hT t
 |some d=>
  simp only[bp,Act.put]
  by_cases h1:t=d
  ·subst h1
   rw[if_pos rfl]
   by_cases h2:t<n
   ·rw[if_pos h2]
    simpa[Array.getD,Array.size_setIfInBounds,hs,h2]using hr
   ·rw[if_neg h2];exact .top _
  ·rw[if_neg h1]
   have:=hT t
   by_cases h2:t<a.tmps.size
   ·simpa[Array.getD,Array.size_setIfInBounds,h2,Array.getElem_setIfInBounds_ne _ (Ne.symm h1)]using this
   ·simpa[Array.getD,Array.size_setIfInBounds,h2]using this
theorem Ck(a:Act)(d:Option Tmp)(v:Value):(a.put d v).tmps.size=a.tmps.size:=by cases d<;>simp[Act.put]
theorem put_defers(a:Act)(d:Option Tmp)(v:Value):(a.put d v).defers=a.defers:=by cases d<;>rfl
theorem Inv.put{s:Nat→AV}{H H':aa}{φ φ':aK}{N N':Addr→Prop}{a:Act}{w w':World}(h:Inv H0 φ0 N0 w0 n ds s H φ N a w)(hR:Rel H' φ' N' w')(hS:au H φ N w H' φ' N' w'){r:AV}{x:Value}(hr:RA H' φ' N' w' r x)(d:Option Tmp):
  Inv H0 φ0 N0 w0 n ds (bp n s d r) H' φ' N' (a.put d x) w' where
 rel:=hR
 tmps:=bI.put (fun t=>(h.tmps t).since h.rel hS) hr h.size
 since:=h.since.trans hS
 size:=(Ck _ _ _).trans h.size
 defers:=by rw[put_defers];exact h.defers.since hS
def dG(F:Fence):Prop:=F=Fence.wide∨∃l,F=Fence.wide.inRound l
theorem dG.fn{F:Fence}(h:dG F)(f:FuncId):F.fn f:=by
 rcases h with rfl|⟨l,rfl⟩<;>exact trivial
theorem dG.none{F:Fence}(h:dG F):¬F.depth.isSome=true:=by
 rcases h with rfl|⟨l,rfl⟩<;>(intro h;cases h)
theorem dG.calls{F:Fence}(h:dG F){n:Nat}{f:FuncId}{args:Array Value}{w:World}{R:Ending→World→Prop}(hc:Calls P f args w R):CallsIn F n P f args w R:=by
 rcases h with rfl|⟨l,rfl⟩<;>exact callsIn_wide.2 hc
theorem dG.DE{F:Fence}(h:dG F){n:Nat}{l:Nat}{f:FuncId}{tmps:Array Value}{x y:Code}{w:World}{R:Ending→World→Prop}(hc:RoundIn Fence.wide 0 P l f tmps x y w R):RoundIn F n P l f tmps x y w R:=by
 have:RoundIn Fence.wide n P l f tmps x y w R:=⟨hc.1,fun c cs _=>hc.2 c cs (room_wide _)⟩
 rcases h with rfl|⟨l,rfl⟩<;>exact this
variable {F:Fence}
theorem Co(hF:dG F){s:Nat→AV}{H:aa}{φ:aK}{N:Addr→Prop}{a:Act}{w:World}{o:Oper}(hI:Inv H0 φ0 N0 w0 n ds s H φ N a w){K:AV→aa→Prop}{KP:Value→aa→Prop}(h:aB P hint s H o K KP)
  {next:Act→World→Prop} {Q:Exit→Act→World→Prop}
  (hn:∀r H' φ' N' x w',K r H'→Rel H' φ' N' w'→au H φ N w H' φ' N' w'→RA H' φ' N' w' r x→next (a.put o.dst x) w')
  (hp:∀v H' φ' N' w',KP v H'→Rel H' φ' N' w'→au H φ N w H' φ' N' w'→Q (.panic [{v:=v,recovered:=false}]) a w'):o.wpIn F 0 P a w next Q:=by
 have plain:(∀c,o.op≠ .defer c)→∀r H',K r H'∧bW P o a w H φ N r H'→o.wpIn F 0 P a w next Q:=by
  rintro hd r H' ⟨hK,x,w',φ',N',hrun,hR,hS,hr⟩
  refine⟨fun f _=>hF.fn f,?_⟩
  rw[Oper.semAt_eq _ _ _ hd]
  rcases hrun with hrun|⟨hrun,rfl⟩
  ·rw[hrun];exact hn r H' φ' N' x w' hK hR hS hr
  ·rw[hrun];exact hn r H' φ' N' undef w' hK hR hS hr
 unfold aB at h
 split at h
 ·rename_i x ho
  split at h
  ·rename_i t u hx
   have hv:=bC (ar hI.tmps x) hx
   refine⟨fun f _=>hF.fn f,?_⟩
   rw[Oper.semAt_eq _ _ _ fun c e=>by rw[ho]at e;cases e]
   have hrun:(execOp a.eval o).run P w= .halt (.panic (.iface t u)) w:=by simp[execOp,ho,hv,Instr.panic,goPanic]
   rw[hrun]
   exact hp _ H φ N w h hI.rel au.refl
  ·exact h.elim
 ·rename_i c ho
  split at h
  ·rename_i f hc
   split at h
   ·rename_i g caps hf
    obtain⟨res,H',hD,h⟩:=h
    have hfv:=ar hI.tmps f
    rw[hf]at hfv
    generalize hfe:a.eval f=fv at hfv
    cases hfv with
    |fn _ _ vs hl hh=>
    have hargs:p8 H φ N w (c.args.toList.map (ah s)++caps) (c.args.map a.eval++vs):=by
     refine⟨by simp[hl],fun i h1 h2=>?_⟩
     by_cases hi:i<c.args.size
     ·rw[List.getElem_append_left (by simpa using hi),Array.getElem_append_left (by simpa using hi)]
      simp only[List.getElem_map,Array.getElem_map,Array.getElem_toList]
      exact ar hI.tmps _
     ·rw[List.getElem_append_right (by simpa using hi),Array.getElem_append_right (by simpa using hi)]
      simp only[List.length_map,Array.length_toList,Array.size_map]
      exact hh _ (by simp at h1;omega) (by simp at h2;omega)
    have hcall:=hD φ N w _ hI.rel hargs
    have hex:∀r,(callFunc g (c.args.map a.eval++vs)).run P w=r→(execOp a.eval o).run P w=r:=by
     intro r hr
     simp[execOp,ho,resolve,hc,hfe,Deferred.ofValue,invoke,hr]
    refine⟨fun f _=>hF.fn f,?_⟩
    rw[Oper.semAt_eq _ _ _ fun c e=>by rw[ho]at e;cases e]
    rcases hcall with⟨hrun,hC⟩|⟨v,w',hrun,φ',N',hR,hS,hE⟩
    ·rw[hex _ hrun]
     refine⟨fun h=>absurd h hF.none,hF.calls (Calls.mono hC ?_)⟩
     rintro e w' ⟨φ',N',hR,hS,hE⟩
     cases res with
     |ok r=>
      cases e with
      |returned v=>exact hn r H' φ' N' v w' h hR hS hE
      |panicked ch=>exact hE.elim
      |outgrown=>exact hE.elim
     |panic v=>
      cases e with
      |returned _=>exact hE.elim
      |panicked ch=>
       cases ch with
       |nil=>exact hE.elim
       |cons p ps=>
        cases ps with
        |nil=>
         have:p={v:=v,recovered:=false}:=hE
         subst this
         exact hp v H' φ' N' w' h hR hS
        |cons _ _=>exact hE.elim
      |outgrown=>exact hE.elim
    ·rw[hex _ hrun]
     cases res with
     |ok r=>exact hn r H' φ' N' v w' h hR hS hE
     |panic _=>exact hE.elim
   ·rename_i id hf
    obtain⟨_,R,⟨⟨r0,s0,hlp⟩,hY⟩,hK⟩:=h
    have hfv:=ar hI.tmps f
    rw[hf]at hfv
    generalize hfe:a.eval f=fv at hfv
    cases hfv with
    |gq _ B o' ho' hp'=>
    rw[hlp]at ho';cases ho'
    obtain⟨c0,hp0⟩:=hp' rfl
    have hargs:p8 H φ N w (c.args.toList.map (ah s)) (c.args.map a.eval):=by
     refine⟨by simp,fun i h1 h2=>?_⟩
     simp only[List.getElem_map,Array.getElem_map,Array.getElem_toList]
     exact ar hI.tmps _
    obtain⟨fn,tmps,x,y,hrun,hRd⟩:=hY φ N w _ B c0 hI.rel hargs hp0
    refine⟨fun f _=>hF.fn f,?_⟩
    rw[Oper.semAt_eq _ _ _ fun c e=>by rw[ho]at e;cases e]
    have hex:(execOp a.eval o).run P w= .ok (.round B fn tmps x y) w:=by
     simp[execOp,ho,resolve,hc,hfe,Deferred.ofValue,invoke,hrun]
    rw[hex]
    refine⟨fun h=>absurd h hF.none,hF.DE (RoundIn.mono hRd ?_)⟩
    rintro e w' ⟨b,H',φ',N',rfl,hb,hR,hS⟩
    exact hn _ H' φ' N' _ w' (hK b H' hb) hR hS (.d (.v _ rfl))
   ·exact h.elim
  ·rename_i b hc
   obtain⟨r,H',hK,hok⟩:=nw hI.rel hI.tmps ho hc h
   exact plain (fun c e=>by rw[ho]at e;cases e) r H' ⟨hK,hok⟩
  ·exact h.elim
 ·have hd:∀c,o.op≠ .defer c:=fun c e=>by
   rw[e]at h
   exact h
  obtain⟨r,H',hK,hok⟩:=Gf hI.rel hI.tmps h
  exact plain hd r H' ⟨hK,hok⟩
theorem uK(hF:dG F){ops:Array Oper}{Q:aQ}{s:Nat→AV}{H:aa}{φ:aK}{N:Addr→Prop}{a:Act}{w:World}{o:Oper}(hI:Inv H0 φ0 N0 w0 n ds s H φ N a w){K:(Nat→AV)→aa→Prop}(h:cN P hint n ops Q o K s H)
  {next:Act→World→Prop} (hn:∀s' H' φ' N' a' w',K s' H'→Inv H0 φ0 N0 w0 n ds s' H' φ' N' a' w'→next a' w'):
  if Region.wanted o (yielded ops a.tmps)then o.wpIn F 0 P a w next (jX H0 φ0 N0 w0 n ds Q)else(∀f,o.about P w a.eval=some f→F.fn f)∧next (a.put o.dst undef) w:=by
 have step:aB P hint s H o (fun r H'=>K (bp n s o.dst r) H') (fun v H'=>Q (.panic v) s H')→o.wpIn F 0 P a w next (jX H0 φ0 N0 w0 n ds Q):=fun h=>
  Co hF hI h (fun r H' φ' N' x w' hK hR hS hr=>hn _ _ φ' N' _ _ hK (hI.put hR hS hr _))
   (fun v H' φ' N' w' hq hR hS=>⟨.panic v,s,H',φ',N',rfl,hq,hR,fun t=>(hI.tmps t).since hI.rel hS,hI.since.trans hS,hI.size,hI.defers.since hS⟩)
 unfold cN at h
 split at h
 ·rename_i hg
  have:Region.wanted o (yielded ops a.tmps)=true:=by simp[Region.wanted,hg]
  rw[if_pos this]
  exact step h
 ·rename_i j want hg
  split at h
  ·rename_i b hb
   have hw:Region.wanted o (yielded ops a.tmps)=b:=by
    unfold fx at hb
    split at hb
    ·rename_i d hd
     split at hb
     ·rename_i hdn
      have:=hI.tmps d
      have hlt:d<a.tmps.size:=by rw[hI.size];exact hdn
      simp only[Array.getD,hlt,dif_pos]at this
      have this:RA H φ N w (s d) a.tmps[d]:=this
      unfold HQ at hb
      split at hb
      ·rename_i b' hs
       cases hb
       rw[hs]at this
       have hv:=this.closed
       have hv':a.tmps[d]= .bool b':=hv
       simp[Region.wanted,hg,yielded,hd,hlt,hv']
      ·rename_i hs
       cases hb
       rw[hs]at this
       generalize hx:a.tmps[d]=x at this
       cases this with
       |a7 cs vs hl h=>
        simp[Region.wanted,hg,yielded,hd,hlt,hx]
      ·cases hb
     ·cases hb
    ·cases hb
   cases b with
   |true=>
    rw[if_pos rfl]at h
    rw[if_pos hw]
    exact step h
   |false=>
    rw[if_neg (by simp)]at h
    rw[if_neg (by simp[hw])]
    exact⟨fun f _=>hF.fn f,hn _ _ φ N _ _ h (hI.put hI.rel au.refl (.a7 [] #[] rfl fun i h=>by simp at h) _)⟩
  ·exact h.elim
theorem pO(hF:dG F){ops:Array Oper}{Q:aQ}:∀(l:List Oper) (k:Nat),(∀j,l[j]?=ops[k+j]?)→∀{s:Nat→AV} {H:aa} {φ:aK} {N:Addr→Prop} {a:Act} {w:World},Inv H0 φ0 N0 w0 n ds s H φ N a w→
  aN P hint n ops Q l s H→wpOpsIn F 0 P ops (jX H0 φ0 N0 w0 n ds Q) (List.range' k l.length) a w
 |[],k,hl,s,H,φ,N,a,w,hI,h=>⟨.normal,s,H,φ,N,rfl,h,hI⟩
 |o::rest,k,hl,s,H,φ,N,a,w,hI,h=>by
  have h0:ops[k]?=some o:=by simpa using(hl 0).symm
  simp only[List.length_cons,List.range'_succ]
  rw[wpOpsIn_cons]
  unfold wpOpIn
  simp only[h0]
  exact uK hF hI h fun s' H' φ' N' a' w' hK hI'=>pO hF rest (k+1) (fun j=>by have:=hl (j+1);rw[List.getElem?_cons_succ]at this;rw[this];congr 1;omega) hI' hK
theorem mJ(hF:dG F){ops:Array Oper}{Q:aQ}:∀(fuel:Nat) (listed:Array Bool) {s:Nat→AV} {H:aa} {φ:aK} {N:Addr→Prop} {a:Act} {w:World},Inv H0 φ0 N0 w0 n ds s H φ N a w→
  fu P hint n ops Q fuel listed s H→wpAnyIn F 0 P .any ops (jX H0 φ0 N0 w0 n ds Q) fuel listed a w
 |0,listed,s,H,φ,N,a,w,hI,h=>⟨h.1,.normal,s,H,φ,N,rfl,h.2,hI⟩
 |fuel+1,listed,s,H,φ,N,a,w,hI,h=>by
  refine⟨fun hr=>⟨.normal,s,H,φ,N,rfl,h.1 hr,hI⟩,fun i hi=>?_⟩
  have hi':=h.2 i hi
  unfold wpOpIn
  split at hi'
  ·rename_i hop
   simp only[hop]
   exact mJ hF fuel _ hI hi'
  ·rename_i o hop
   simp only[hop]
   exact uK hF hI hi' fun s' H' φ' N' a' w' hK hI'=>mJ hF fuel _ hI' hK
theorem jF.mono{m m':Nat}{x:AV}(h:jF m x)(hm:m≤m'):jF m' x:=by
 induction h with
 |top=>exact .top
 |d=>exact .d _
 |di=>exact .di
 |ptr _ _ _ _ h=>exact .ptr _ _ _ _ (by omega)
 |cc=>exact .cc _
 |sl _ _ _ _ h=>exact .sl _ _ _ _ (by omega)
 |agg cs _ ih=>exact .agg cs ih
 |a7 cs _ ih=>exact .a7 cs ih
 |fn f cs _ ih=>exact .fn f cs ih
 |mp _ h=>exact .mp _ (by omega)
 |gq _ h=>exact .gq _ (by omega)
theorem RA.bel{H:aa}{φ:aK}{N:Addr→Prop}{w:World}{x:AV}{v:Value}(h:RA H φ N w x v):jF H.length x:=by
 induction h with
 |top=>exact .top
 |d=>exact .d _
 |di=>exact .di
 |ptr id ver i j A o ho=>exact .ptr _ _ _ _ (aj ho)
 |cc=>exact .cc _
 |sl id ver off len A l m o ho=>exact .sl _ _ _ _ (aj ho)
 |agg cs vs hl _ ih=>exact .agg cs fun i hi=>ih i hi (by omega)
 |a7 cs vs hl _ ih=>exact .a7 cs fun i hi=>ih i hi (by omega)
 |fn f cs vs hl _ ih=>exact .fn f cs fun i hi=>ih i hi (by omega)
 |mp id B c kk es ho=>exact .mp _ (aj ho)
 |gq id B o ho=>exact .gq _ (aj ho)
theorem F0{m:Nat}{x:AV}(h:iN m x=true):jF m x:=by
 cases x with
 |top=>exact .top
 |d=>exact .d _
 |di=>exact .di
 |ptr id _ _ _=>exact .ptr _ _ _ _ (by simpa[iN]using h)
 |cc=>exact .cc _
 |sl id _ _ _=>exact .sl _ _ _ _ (by simpa[iN]using h)
 |agg=>cases h
 |a7=>cases h
 |fn f cs=>
  have:cs=[]:=by simpa[iN]using h
  subst this
  exact .fn f [] fun i hi=>by simp at hi
 |mp id=>exact .mp _ (by simpa[iN]using h)
 |gq id=>exact .gq _ (by simpa[iN]using h)
theorem G1{m:Nat}{x:AV}(h:ga m x=true):jF m x:=by
 cases x with
 |agg cs=>
  simp only[ga,List.all_eq_true]at h
  exact .agg cs fun i hi=>F0 (h _ (List.getElem_mem hi))
 |fn f cs=>
  simp only[ga,List.all_eq_true]at h
  exact .fn f cs fun i hi=>F0 (h _ (List.getElem_mem hi))
 |_=>exact F0 h
def gX(H:aa)(φ:aK)(m:Nat)(N:Addr→Prop):Addr→Prop:=fun a=>
 N a∨∃id B c e k ver es,m≤id∧H[id]?=some (.arr e k ver es)∧φ id=some (B,c)∧a.block=B∧a.spot=none∧a.off<es.length* k
theorem fT{H:aa}{m id:Nat}(h:id<m):(H.take m)[id]?=H[id]?:=by rw[List.getElem?_take,if_pos h]
theorem RD.frozen{H:aa}{φ:aK}{m:Nat}{N:Addr→Prop}{w:World}{x:D}{v:Value}(h:RD N w x v):RD (gX H φ m N) w x v:=h.mono (fun _ h=> .inl h) fun _ _ _ h=>h
theorem RA.take{H:aa}{φ:aK}{N:Addr→Prop}{w:World}{x:AV}{v:Value}(h:RA H φ N w x v){m:Nat}(hb:jF m x):RA (H.take m) φ (gX H φ m N) w x v:=by
 induction h with
 |top=>exact .top _
 |d hd=>exact .d hd.frozen
 |di=>exact .di _
 |ptr id ver i j A o ho hv hp=>cases hb with|ptr _ _ _ _ h=>exact .ptr _ _ _ _ _ o (by rw[fT h];exact ho) hv hp
 |cc cs ad c hc hd=>exact .cc cs ad c (fun t ht=>⟨.inl (hc t ht).1,(hc t ht).2⟩) fun t ht=>(hd t ht).frozen
 |sl id ver off len A l m' o ho hv hp=>cases hb with|sl _ _ _ _ h=>exact .sl _ _ _ _ _ _ _ o (by rw[fT h];exact ho) hv hp
 |agg cs vs hl _ ih=>cases hb with|agg _ hb=>exact .agg cs vs hl fun i h1 h2=>ih i h1 h2 (hb i h1)
 |a7 cs vs hl _ ih=>cases hb with|a7 _ hb=>exact .a7 cs vs hl fun i h1 h2=>ih i h1 h2 (hb i h1)
 |fn f cs vs hl _ ih=>cases hb with|fn _ _ hb=>exact .fn f cs vs hl fun i h1 h2=>ih i h1 h2 (hb i h1)
 |mp id B c kk es ho hp=>cases hb with|mp _ h=>exact .mp id B c kk es (by rw[fT h];exact ho) hp
 |gq id B o ho hp=>cases hb with|gq _ h=>exact .gq id B o (by rw[fT h];exact ho) hp
theorem sS{H:aa}{φ:aK}{N:Addr→Prop}{w:World}(hR:Rel H φ N w)(m:Nat){x:AV}{v:Value}(h:RA H φ N w x v):RA (H.take m) φ (gX H φ m N) w (lh H m x) v:=by
 cases x with
 |ptr id ver i j=>
  simp only[lh]
  split
  ·rename_i hlt;exact h.take (.ptr _ _ _ _ hlt)
  ·exact .top _
 |mp id=>
  simp only[lh]
  split
  ·rename_i hlt;exact h.take (.mp _ hlt)
  ·exact .top _
 |gq id=>
  simp only[lh]
  split
  ·rename_i hlt;exact h.take (.gq _ hlt)
  ·exact .top _
 |sl id ver off len=>
  simp only[lh]
  split
  ·rename_i hlt;exact h.take (.sl _ _ _ _ hlt)
  ·rename_i hge
   split
   ·rename_i e k v' es hob
    split
    ·rename_i hv
     subst hv
     cases h with
     |sl _ _ _ _ A l m' o ho hv hp=>
     rw[hob]at ho;cases ho
     obtain⟨rfl,h1,h2⟩:=hp rfl
     simp only[ay.len]at h1
     by_cases hl0:l=0
     ·subst hl0
      simp only[List.take_zero]
      exact .d (.nil _ _ (by rcases h2 with⟨_,_,_,rfl⟩|⟨B,c,_,_,rfl,_⟩;exact fun _=>rfl;exact fun h=>by cases h))
     rcases h2 with⟨_,h3,_⟩|⟨B,c,h3,h4,rfl,rfl⟩
     ·omega
     have hobj:=hR.obj id _ hob
     cases hobj with
     |arr _ _ _ _ hk hes hbl=>
     rcases hbl with⟨g0,_⟩|⟨B',cap,cur,g1,g2,g3,g4,g5,g6⟩
     ·rw[g0]at h3;cases h3
     have hφ:=h3
     obtain⟨e1,e2⟩:=Prod.mk.inj (Option.some.inj (g1.symm.trans h3))
     subst e1 e2
     have hel:((es.drop off).take l).length=l:=by simp;omega
     have key:=RD.list (N:=gX H φ m N) (w:=w) false ((es.drop off).take l) ⟨B',off* k,none⟩ (cap-off) k (fun i j=>cur.getD ((off+i)* k+j) undef) (by rw[hel];omega)
      (fun e he=>hes e (List.mem_of_mem_drop (List.mem_of_mem_take he))) (fun i j hi hj=>by
       rw[hel]at hi
       have hlt:(off+i)* k+j<es.length* k:=cW hj (by omega)
       have hlt2:(off+i)* k+j<cur.size:=by have:=Nat.mul_le_mul_right k g3;omega
       have hpos:off* k+(i* k+j)=(off+i)* k+j:=by rw[Nat.add_mul];omega
       rw[add_plain,hpos]
       refine⟨.inr ⟨id,B',cap,e,k,v',es,by omega,hob,hφ,rfl,rfl,hlt⟩,?_⟩
       simp[World.cell?,g2,Array.getD,hlt2]) (fun i hi j hj=>by
       rw[hel]at hi
       simp only[List.getElem_take,List.getElem_drop]at hj⊢
       obtain⟨u,hu,hd⟩:=g6 (off+i) (by omega) j hj
       have hget:cur.getD ((off+i)* k+j) undef=u:=by
        rw[Array.getD_eq_getD_getElem?,hu];rfl
       simp only[hget]
       exact hd.frozen)
     rw[hel]at key
     exact .d key
    ·exact .top _
   ·exact .top _
 |agg=>exact .top _
 |a7=>exact .top _
 |fn f cs=>
  cases cs with
  |nil=>exact h.take (.fn f [] fun i hi=>by simp at hi)
  |cons _ _=>exact .top _
 |top=>exact .top _
 |d=>exact h.take (.d _)
 |di=>exact h.take .di
 |cc=>exact h.take (.cc _)
theorem zl{H:aa}{φ:aK}{N:Addr→Prop}{w:World}(hR:Rel H φ N w)(m:Nat){x:AV}{v:Value}(h:RA H φ N w x v):RA (H.take m) φ (gX H φ m N) w (GP H m x) v:=by
 cases x with
 |agg cs=>
  cases h with
  |agg _ vs hl hh=>exact .agg _ vs (by simpa using hl) fun i h1 h2=>by simpa using sS hR m (hh i (by simpa using h1) h2)
 |fn f cs=>
  cases h with
  |fn _ _ vs hl hh=>exact .fn f _ vs (by simpa using hl) fun i h1 h2=>by simpa using sS hR m (hh i (by simpa using h1) h2)
 |_=>exact sS hR m h
theorem BX{H:aa}{φ:aK}{N:Addr→Prop}{w:World}(hR:Rel H φ N w)(m:Nat){x:AV}{v:Value}(h:RA H φ N w x v):RA (H.take m) φ (gX H φ m N) w (pZ H m x) v:=by
 cases x with
 |a7 cs=>
  cases h with
  |a7 _ vs hl hh=>exact .a7 _ vs (by simpa using hl) fun i h1 h2=>by simpa using zl hR m (hh i (by simpa using h1) h2)
 |_=>exact zl hR m h
theorem Rel.take{H:aa}{φ:aK}{N:Addr→Prop}{w:World}(hR:Rel H φ N w)(m:Nat)(hb:∀i o,i<m→H[i]?=some o→(∀e k ver n cs,o= .box e k ver n cs→∀c∈cs,jF m c)∧(∀kk es,o= .mp kk es→∀e∈es,jF m e.2)∧(∀m' since seen,o= .iter m' since seen→m'<m)∧∀r s,o= .lp r s→∀t,jF m (s t)):
  Rel (H.take m) φ (gX H φ m N) w where
 obj id o h:=by
  have hlt:id<m:=by have:=aj h;simp at this;omega
  rw[fT hlt]at h
  obtain⟨hb1,hb2,hb3,hb4⟩:=hb id o hlt h
  cases hR.obj id o h with
  |arr e k ver es hk hes hh=>
   refine .arr e k ver es hk hes ?_
   rcases hh with hh|⟨B,cap,cur,g1,g2,g3,g4,g5,g6⟩
   ·exact .inl hh
   ·refine .inr ⟨B,cap,cur,g1,g2,g3,g4,g5,fun i hi j hj=>?_⟩
    obtain⟨c,hc,hd⟩:=g6 i hi j hj
    exact⟨c,hc,hd.frozen⟩
  |box e k ver n cs B cap cur hk hn hp hbk hc hm hs hh=>
   refine .box e k ver n cs B cap cur hk hn hp hbk hc hm hs fun j hj=>?_
   obtain⟨c,hc,hd⟩:=hh j hj
   exact⟨c,hc,hd.take (hb1 e k ver n cs rfl _ (List.getElem_mem hj))⟩
  |mp kk es B cap ents clock hp hbk hs hck hbn hh=>exact .mp kk es B cap ents clock hp hbk hs hck hbn fun j hj hj2=>⟨(hh j hj hj2).1,(hh j hj hj2).2.take (hb2 kk es rfl _ (List.getElem_mem hj))⟩
  |dead ver hp=>exact .dead ver hp
  |iter m' since seen B cap bm cm kk es hp hbk hm hpm=>exact .iter m' since seen B cap bm cm kk es hp hbk (by rw[fT (hb3 m' since seen rfl)];exact hm) hpm
  |lp r s B cap hp hbk hh=>exact .lp r s B cap hp hbk fun t=>(hh t).take (hb4 r s rfl t)
 inj i j B c c' hi hj h1 h2:=hR.inj i j B c c' (by simp at hi;omega) (by simp at hj;omega) h1 h2
 live a ha:=by
  rcases ha with ha|⟨id,B,c,e,k,ver,es,hid,ho,hp,h1,h2,h3⟩
  ·exact hR.live a ha
  ·cases hR.obj id _ ho with
   |arr _ _ _ _ hk hes hh=>
   rcases hh with⟨g0,_⟩|⟨B',cap,cur,g1,g2,g3,g4,g5,g6⟩
   ·rw[g0]at hp;cases hp
   ·rw[g1]at hp;cases hp
    have hlt:a.off<cur.size:=by have:=Nat.mul_le_mul_right k g3;omega
    exact⟨cur[a.off],by simp[World.cell?,h1,g2,h2,hlt]⟩
 apart a id B c ha hid hp:=by
  simp at hid
  rcases ha with ha|⟨id',B',c',e,k,ver,es,hid',ho,hp',h1,h2,h3⟩
  ·exact hR.apart a id B c ha (by omega) hp
  ·intro he
   have:=hR.inj id id' B c c' (by omega) (aj ho) hp (by rw[←he,h1];exact hp')
   omega
theorem au.take{H:aa}{φ:aK}{N:Addr→Prop}{w:World}(h:au H0 φ0 N0 w0 H φ N w)(m:Nat)(hm:H0.length≤m)(hl:m≤H.length):au H0 φ0 N0 w0 (H.take m) φ (gX H φ m N) w where
 len:=by simp;omega
 os:=h.os
 tape:=h.tape
 output:=h.output
 size:=h.size
 cM:=h.cM
 own id B c hid:=h.own id B c (by simp at hid;omega)
 mono a ha:= .inl (h.mono a ha)
 bM id o ho:=by
  obtain⟨o',h1,h2⟩:=h.bM id o ho
  exact⟨o',by rw[fT (by have:=aj ho;omega)];exact h1,h2⟩
 nU a ha:=by
  rcases ha with ha|⟨id,B,c,_,_,_,_,_,ho,hp,h1,_⟩
  ·exact h.nU a ha
  ·rcases Nat.lt_or_ge B w0.heap.size with hl|hl
   ·obtain⟨id0,c0,h2,h3⟩:=h.own id B c (aj ho) hp hl
    exact .inr (.inr ⟨id0,c0,h2,by rw[h1];exact h3⟩)
   ·exact .inr (.inl (by omega))
theorem ak.ok{s s':Nat→AV}{H H':aa}(hW:ak H0 s H s' H')(hR0:Rel H0 φ0 N0 w0):∀{φ:aK} {N:Addr→Prop} {a:Act} {w:World},Inv H0 φ0 N0 w0 n ds s H φ N a w→∃φ' N',Inv H0 φ0 N0 w0 n ds s' H' φ' N' a w:=by
 induction hW with
 |refl=>exact fun h=>⟨_,_,h⟩
 |uF s H m hm hl hb=>
  intro φ N a w hI
  refine⟨φ,gX H φ m N,hI.rel.take m fun i o hi ho=>?_,fun t=>BX hI.rel m (hI.tmps t),hI.since.take m hm hl,hI.size,hI.defers.mono fun D _ _ _ hn=>⟨rfl,fun id c hid=>hn id c (by simp at hid;omega)⟩⟩
  rcases hb i o hi ho with h0|h0
  ·have hob:=hR0.obj i o h0
   refine⟨?_,?_,?_,?_⟩
   ·rintro e k ver n cs rfl c hc
    cases hob with
    |box _ _ _ _ _ B cap cur hk hn hp hbk hc' hm' hs hh=>
    obtain⟨j,hj,rfl⟩:=List.mem_iff_getElem.1 hc
    obtain⟨u,_,hu⟩:=hh j hj
    exact hu.bel.mono hm
   ·rintro kk es rfl e he
    cases hob with
    |mp _ _ B cap ents clock hp hbk hs hck hbn hh=>
    obtain⟨j,hj,rfl⟩:=List.mem_iff_getElem.1 he
    exact(hh j hj (by omega)).2.bel.mono hm
   ·rintro m' since seen rfl
    cases hob with
    |iter _ _ _ B cap bm cm kk es hp hbk hmm hpm=>exact Nat.lt_of_lt_of_le (aj hmm) hm
   ·rintro r s rfl t
    cases hob with
    |lp _ _ B cap hp hbk hh=>exact(hh t).bel.mono hm
  ·refine⟨?_,?_,?_,?_⟩
   ·rintro e k ver n cs rfl c hc
    simp only[ay.below,List.all_eq_true]at h0
    exact G1 (h0 c hc)
   ·rintro kk es rfl e he
    simp only[ay.below,List.all_eq_true]at h0
    exact G1 (h0 e he)
   ·rintro m' since seen rfl
    simpa[ay.below]using h0
   ·rintro r s rfl
    simp[ay.below]at h0
 |CS s H m hm hl hb=>
  intro φ N a w hI
  refine⟨φ,gX H φ m N,hI.rel.take m fun i o hi ho=>?_,fun t=>BX hI.rel m (hI.tmps t),hI.since.take m hm hl,hI.size,hI.defers.mono fun D _ _ _ hn=>⟨rfl,fun id c hid=>hn id c (by simp at hid;omega)⟩⟩
  rcases hb i o hi ho with h0|h0
  ·have hob:=hR0.obj i o h0
   refine⟨?_,?_,?_,?_⟩
   ·rintro e k ver n cs rfl c hc
    cases hob with
    |box _ _ _ _ _ B cap cur hk hn hp hbk hc' hm' hs hh=>
    obtain⟨j,hj,rfl⟩:=List.mem_iff_getElem.1 hc
    obtain⟨u,_,hu⟩:=hh j hj
    exact hu.bel.mono hm
   ·rintro kk es rfl e he
    cases hob with
    |mp _ _ B cap ents clock hp hbk hs hck hbn hh=>
    obtain⟨j,hj,rfl⟩:=List.mem_iff_getElem.1 he
    exact(hh j hj (by omega)).2.bel.mono hm
   ·rintro m' since seen rfl
    cases hob with
    |iter _ _ _ B cap bm cm kk es hp hbk hmm hpm=>exact Nat.lt_of_lt_of_le (aj hmm) hm
   ·rintro r s rfl t
    cases hob with
    |lp _ _ B cap hp hbk hh=>exact(hh t).bel.mono hm
  ·exact h0
 |Fu s H t id e k ver n ds ho hs=>
  intro φ N a w hI
  obtain⟨φ',N',hR',hS',hv⟩:=Rel.Bh hI.rel ho
  refine⟨φ',N',hR',fun u=>?_,hI.since.trans hS',hI.size,hI.defers.since hS'⟩
  by_cases hu:u=t
  ·subst hu
   simp only[if_pos]
   have h1:=hI.tmps u
   rw[hs]at h1
   obtain⟨ad,h2,h3⟩:=hv _ h1
   rw[h2]
   exact rX h3
  ·simp only[if_neg hu]
   exact(hI.tmps u).since hI.rel hS'
 |kF s H id k0 ver m j id' ver' off len k e0 e cs es ho hj ho'=>
  intro φ N a w hI
  obtain⟨φ',N',hR',hS'⟩:=Rel.kF hI.rel ho hj ho'
  exact⟨φ',N',hR',fun u=>(hI.tmps u).since hI.rel hS',hI.since.trans hS',hI.size,hI.defers.since hS'⟩
 |xD s H id e k ver es ho hne=>
  intro φ N a w hI
  obtain⟨hR',hS'⟩:=Rel.xD hI.rel ho hne
  exact⟨φ,N,hR',fun u=>(hI.tmps u).since hI.rel hS',hI.since.trans hS',hI.size,hI.defers.since hS'⟩
 |xd s H id e k ver es ho hk=>
  intro φ N a w hI
  obtain⟨hR',hS'⟩:=Rel.xd hI.rel ho hk
  exact⟨φ,N,hR',fun u=>(hI.tmps u).since hI.rel hS',hI.since.trans hS',hI.size,hI.defers.since hS'⟩
 |more s H e k hk=>
  intro φ N a w hI
  have hS:=au.n6 hI.rel (.arr e k 0 [])
  exact⟨φ.put H.length none,N,hI.rel.n6 e k hk,fun u=>(hI.tmps u).since hI.rel hS,hI.since.trans hS,hI.size,hI.defers.since hS⟩
 |imp s s' H h=>exact fun hI=>⟨_,_,hI.rel,fun u=>h _ _ _ _ _ (hI.tmps u),hI.since,hI.size,hI.defers⟩
 |y6 s H t e k ver hk h=>
  intro φ N a w hI
  have hS:=au.n6 hI.rel (.arr e k ver [])
  refine⟨φ.put H.length none,N,hI.rel.n6 e k hk ver,fun u=>?_,hI.since.trans hS,hI.size,hI.defers.since hS⟩
  by_cases hu:u=t
  ·subst hu
   simp only[if_pos]
   obtain⟨A,hA⟩:=ko (hI.tmps u) h
   rw[hA]
   exact .sl _ _ _ _ _ _ _ (.arr e k ver []) (by simp) (Nat.le_refl _) fun _=>⟨rfl,by simp[ay.len],.inl ⟨aK.aD _ _ _,rfl,rfl,rfl⟩⟩
  ·simp only[if_neg hu]
   exact(hI.tmps u).since hI.rel hS
 |df s H id e0 k0 ver m cs j x e k hk ho hj hx=>
  intro φ N a w hI
  have hS:=au.n6 hI.rel (.arr e k 0 [])
  have hR:=hI.rel.n6 e k hk
  have ho':(H++[ay.arr e k 0 []])[id]?=some (.box e0 k0 ver m cs):=by rw[List.getElem?_append_left (aj ho)];exact ho
  have hob:=hR.obj id _ ho'
  cases hob with
  |box _ _ _ _ _ B cap cur g1 g2 g3 g4 g5 g6 g7 g8=>
  have hS2:au (H++[ay.arr e k 0 []]) (φ.put H.length none) N w ((H++[ay.arr e k 0 []]).set id (.box e0 k0 ver m (cs.set j (.sl H.length 0 0 0)))) (φ.put H.length none) N w:=
   au.set ho' g3 rfl rfl rfl (fun kk es he=>by cases he) rfl rfl rfl rfl fun _ _=>rfl
  have hset:(H++[ay.arr e k 0 []]).set id (.box e0 k0 ver m (cs.set j (.sl H.length 0 0 0)))=H.set id (.box e0 k0 ver m (cs.set j (.sl H.length 0 0 0)))++[.arr e k 0 []]:=List.set_append_left _ _ (aj ho)
  rw[←hset]
  refine⟨φ.put H.length none,N,hR.set ho' g3 hS2 (fun _ _=>rfl) ?_,fun u=>((hI.tmps u).since hI.rel hS).since hR hS2,(hI.since.trans hS).trans hS2,hI.size,(hI.defers.since hS).since hS2⟩
  refine .box e0 k0 ver m _ B cap cur g1 (by simpa using g2) g3 g4 g5 g6 g7 fun i hi=>?_
  simp only[List.length_set]at hi
  obtain⟨c,hc,hd⟩:=g8 i hi
  refine⟨c,hc,?_⟩
  by_cases he:i=j
  ·subst he
   simp only[List.getElem_set_self]
   rw[List.getElem?_eq_getElem (by simpa using hi)]at hj
   cases hj
   obtain⟨A,hA⟩:=ko hd hx
   rw[hA]
   refine .sl _ _ _ _ _ _ _ (.arr e k 0 []) ?_ (Nat.le_refl _) fun _=>⟨rfl,by simp[ay.len],.inl ⟨aK.aD _ _ _,rfl,rfl,rfl⟩⟩
   rw[List.getElem?_set_ne (by have:=aj ho;omega)]
   simp
  ·rw[List.getElem_set_ne (Ne.symm he)]
   exact hd.since hR hS2
 |trans _ _ ih1 ih2=>
  intro φ N a w hI
  obtain⟨φ1,N1,h1⟩:=ih1 hI
  exact ih2 h1
theorem Rel.H6{H:aa}{φ:aK}{N:Addr→Prop}{w:World}(hR:Rel H φ N w):kC H.length H:=by
 intro i o ho
 have hob:=hR.obj i o ho
 refine⟨?_,?_,?_,?_⟩
 ·rintro e k ver n cs rfl c hc
  cases hob with
  |box _ _ _ _ _ B cap cur hk hn hp hbk hc' hm' hs hh=>
  obtain⟨j,hj,rfl⟩:=List.mem_iff_getElem.1 hc
  obtain⟨u,_,hu⟩:=hh j hj
  exact hu.bel
 ·rintro kk es rfl e he
  cases hob with
  |mp _ _ B cap ents clock hp hbk hs hck hbn hh=>
  obtain⟨j,hj,rfl⟩:=List.mem_iff_getElem.1 he
  exact(hh j hj (by omega)).2.bel
 ·rintro m' since seen rfl
  cases hob with
  |iter _ _ _ B cap bm cm kk es hp hbk hmm hpm=>exact aj hmm
 ·rintro r s rfl t
  cases hob with
  |lp _ _ B cap hp hbk hh=>exact(hh t).bel
theorem RA.pre{H T:aa}{φ:aK}{N:Addr→Prop}{w:World}{x:AV}{v:Value}(h:RA (H++T) φ N w x v)(hb:jF H.length x):RA H φ N w x v:=by
 have g:∀{id:Nat} {o:ay},id<H.length→(H++T)[id]?=some o→H[id]?=some o:=fun hl h=>by rwa[List.getElem?_append_left hl]at h
 induction h with
 |top=>exact .top _
 |d hd=>exact .d hd
 |di=>exact .di _
 |ptr id ver i j A o ho hv hp=>cases hb with|ptr _ _ _ _ h=>exact .ptr _ _ _ _ _ o (g h ho) hv hp
 |cc cs ad c hc hd=>exact .cc cs ad c hc hd
 |sl id ver off len A l m' o ho hv hp=>cases hb with|sl _ _ _ _ h=>exact .sl _ _ _ _ _ _ _ o (g h ho) hv hp
 |agg cs vs hl _ ih=>cases hb with|agg _ hb=>exact .agg cs vs hl fun i h1 h2=>ih i h1 h2 (hb i h1)
 |a7 cs vs hl _ ih=>cases hb with|a7 _ hb=>exact .a7 cs vs hl fun i h1 h2=>ih i h1 h2 (hb i h1)
 |fn f cs vs hl _ ih=>cases hb with|fn _ _ hb=>exact .fn f cs vs hl fun i h1 h2=>ih i h1 h2 (hb i h1)
 |mp id B c kk es ho hp=>cases hb with|mp _ h=>exact .mp id B c kk es (g h ho) hp
 |gq id B o ho hp=>cases hb with|gq _ h=>exact .gq id B o (g h ho) hp
theorem Rel.pre{H T:aa}{φ:aK}{N:Addr→Prop}{w:World}(hR:Rel (H++T) φ N w)(hb:kC H.length H):Rel H φ N w where
 obj id o h:=by
  have h':(H++T)[id]?=some o:=by rw[List.getElem?_append_left (aj h)];exact h
  obtain⟨hb1,hb2,hb3,hb4⟩:=hb id o h
  cases hR.obj id o h' with
  |arr e k ver es hk hes hh=>exact .arr e k ver es hk hes hh
  |box e k ver n cs B cap cur hk hn hp hbk hc hm hs hh=>
   refine .box e k ver n cs B cap cur hk hn hp hbk hc hm hs fun j hj=>?_
   obtain⟨c,hc,hd⟩:=hh j hj
   exact⟨c,hc,hd.pre (hb1 e k ver n cs rfl _ (List.getElem_mem hj))⟩
  |mp kk es B cap ents clock hp hbk hs hck hbn hh=>exact .mp kk es B cap ents clock hp hbk hs hck hbn fun j hj hj2=>⟨(hh j hj hj2).1,(hh j hj hj2).2.pre (hb2 kk es rfl _ (List.getElem_mem hj))⟩
  |dead ver hp=>exact .dead ver hp
  |iter m' since seen B cap bm cm kk es hp hbk hm hpm=>exact .iter m' since seen B cap bm cm kk es hp hbk (by rwa[List.getElem?_append_left (hb3 m' since seen rfl)]at hm) hpm
  |lp r s B cap hp hbk hh=>exact .lp r s B cap hp hbk fun t=>(hh t).pre (hb4 r s rfl t)
 inj i j B c c' hi hj h1 h2:=hR.inj i j B c c' (by simp;omega) (by simp;omega) h1 h2
 live:=hR.live
 apart a id B c ha hid hp:=hR.apart a id B c ha (by simp;omega) hp
theorem RA.ext{H T:aa}{φ φ':aK}{N:Addr→Prop}{w:World}{x:AV}{v:Value}(h:RA H φ N w x v)(hp':∀i,i<H.length→φ' i=φ i):RA (H++T) φ' N w x v:=by
 have g:∀{id:Nat} {o:ay},H[id]?=some o→(H++T)[id]?=some o:=fun h=>by rw[List.getElem?_append_left (aj h)];exact h
 induction h with
 |top=>exact .top _
 |d hd=>exact .d hd
 |di=>exact .di _
 |ptr id ver i j A o ho hv hp=>exact .ptr _ _ _ _ _ o (g ho) hv (by rw[hp' _ (aj ho)];exact hp)
 |cc cs ad c hc hd=>exact .cc cs ad c hc hd
 |sl id ver off len A l m' o ho hv hp=>exact .sl _ _ _ _ _ _ _ o (g ho) hv (by rw[hp' _ (aj ho)];exact hp)
 |agg cs vs hl _ ih=>exact .agg cs vs hl ih
 |a7 cs vs hl _ ih=>exact .a7 cs vs hl ih
 |fn f cs vs hl _ ih=>exact .fn f cs vs hl ih
 |mp id B c kk es ho hp=>exact .mp id B c kk es (g ho) (by rw[hp' _ (aj ho)];exact hp)
 |gq id B o ho hp=>exact .gq id B o (g ho) (by rw[hp' _ (aj ho)];exact hp)
theorem jD.ext{H T:aa}{φ φ':aK}{N:Addr→Prop}{w:World}{id:Nat}{o:ay}(h:jD H φ N w id o)(hid:id<H.length)(hp':∀i,i<H.length→φ' i=φ i):jD (H++T) φ' N w id o:=by
 have e:=hp' id hid
 cases h with
 |arr e1 k ver es hk hes hh=>exact .arr e1 k ver es hk hes (by rw[e];exact hh)
 |box e1 k ver n cs B cap cur hk hn hp hbk hc hm hs hh=>
  refine .box e1 k ver n cs B cap cur hk hn (e.trans hp) hbk hc hm hs fun j hj=>?_
  obtain⟨c,hc,hd⟩:=hh j hj
  exact⟨c,hc,hd.ext hp'⟩
 |mp kk es B cap ents clock hp hbk hs hck hbn hh=>exact .mp kk es B cap ents clock (e.trans hp) hbk hs hck hbn fun j hj hj2=>⟨(hh j hj hj2).1,(hh j hj hj2).2.ext hp'⟩
 |dead ver hp=>exact .dead ver (e.trans hp)
 |iter m' since seen B cap bm cm kk es hp hbk hm hpm=>exact .iter m' since seen B cap bm cm kk es (e.trans hp) hbk (by rw[List.getElem?_append_left (aj hm)];exact hm) ((hp' _ (aj hm)).trans hpm)
 |lp r s B cap hp hbk hh=>exact .lp r s B cap (e.trans hp) hbk fun t=>(hh t).ext hp'
theorem RA.off{H:aa}{φ:aK}{N:Addr→Prop}{w w':World}{x:AV}{v:Value}(h:RA H φ N w x v)(hc:∀a v,N a→w.cell? a=some v→w'.cell? a=some v):RA H φ N w' x v:=by
 induction h with
 |top=>exact .top _
 |d hd=>exact .d (hd.mono (fun _ h=>h) hc)
 |di=>exact .di _
 |ptr id ver i j A o ho hv hp=>exact .ptr _ _ _ _ _ o ho hv hp
 |cc cs ad c hn hd=>exact .cc cs ad c (fun t ht=>⟨(hn t ht).1,hc _ _ (hn t ht).1 (hn t ht).2⟩) fun t ht=>(hd t ht).mono (fun _ h=>h) hc
 |sl id ver off len A l m' o ho hv hp=>exact .sl _ _ _ _ _ _ _ o ho hv hp
 |agg cs vs hl _ ih=>exact .agg cs vs hl ih
 |a7 cs vs hl _ ih=>exact .a7 cs vs hl ih
 |fn f cs vs hl _ ih=>exact .fn f cs vs hl ih
 |mp id B c kk es ho hp=>exact .mp id B c kk es ho hp
 |gq id B o ho hp=>exact .gq id B o ho hp
theorem Rel.off{H:aa}{φ:aK}{N:Addr→Prop}{w w':World}(hR:Rel H φ N w)(hb:∀id B c,id<H.length→φ id=some (B,c)→w'.heap[B]?=w.heap[B]?)(hc:∀a v,N a→w.cell? a=some v→w'.cell? a=some v):Rel H φ N w' where
 obj id o h:=by
  have hl:=aj h
  cases hR.obj id o h with
  |arr e k ver es hk hes hh=>
   refine .arr e k ver es hk hes ?_
   rcases hh with hh|⟨B,cap,cur,g1,g2,g3,g4,g5,g6⟩
   ·exact .inl hh
   ·refine .inr ⟨B,cap,cur,g1,(hb id B cap hl g1).trans g2,g3,g4,g5,fun i hi j hj=>?_⟩
    obtain⟨c,h1,h2⟩:=g6 i hi j hj
    exact⟨c,h1,h2.mono (fun _ h=>h) hc⟩
  |box e1 k ver n cs B cap cur hk hn hp hbk hc' hm hs hh=>
   refine .box e1 k ver n cs B cap cur hk hn hp ((hb id B cap hl hp).trans hbk) hc' hm hs fun j hj=>?_
   obtain⟨c,h1,hd⟩:=hh j hj
   exact⟨c,h1,hd.off hc⟩
  |mp kk es B cap ents clock hp hbk hs hck hbn hh=>exact .mp kk es B cap ents clock hp ((hb id B cap hl hp).trans hbk) hs hck hbn fun j hj hj2=>⟨(hh j hj hj2).1,(hh j hj hj2).2.off hc⟩
  |dead ver hp=>exact .dead ver hp
  |iter m' since seen B cap bm cm kk es hp hbk hm hpm=>exact .iter m' since seen B cap bm cm kk es hp ((hb id B cap hl hp).trans hbk) hm hpm
  |lp r s B cap hp hbk hh=>exact .lp r s B cap hp ((hb id B cap hl hp).trans hbk) fun t=>(hh t).off hc
 inj:=hR.inj
 live a ha:=by obtain⟨v,hv⟩:=hR.live a ha;exact⟨v,hc a v ha hv⟩
 apart:=hR.apart
theorem Rel.put{H:aa}{φ:aK}{N:Addr→Prop}{w:World}(hR:Rel H φ N w){X:Nat}{o o':Obj}(hX:w.heap[X]?=some o)(ho:∀cs e fr,o≠ .cells cs e fr)(hn:∀id c,id<H.length→φ id≠some (X,c)):
  Rel H φ N (w.putObj X o')∧∀x v,RA H φ N w x v→RA H φ N (w.putObj X o') x v:=by
 have hc:∀a v,N a→w.cell? a=some v→(w.putObj X o').cell? a=some v:=by
  intro a v ha hv
  have hne:a.block≠X:=by
   intro e
   subst e
   unfold World.cell? at hv
   rw[hX]at hv
   cases o<;>first|cases hv|exact absurd rfl (ho _ _ _)
  rw[World.cell?_of_block (World.putObj_heap_other hne)]
  exact hv
 exact⟨hR.off (fun id B c hid hp=>World.putObj_heap_other fun e=>hn id c hid (by rw[←e];exact hp)) hc,fun x v h=>h.off hc⟩
structure fw (X:Nat) (H0:aa) (φ0:aK) (N0:Addr→Prop) (w0:World) (H:aa) (φ:aK) (N:Addr→Prop) (w:World):Prop where
 len:H0.length≤H.length
 os:w.os=w0.os
 tape:w.tape=w0.tape
 output:w.output=w0.output
 size:w0.heap.size≤w.heap.size
 cM:∀k,k<w0.heap.size→k≠X→(∀id c,id<H0.length→φ0 id≠some (k,c))→w.heap[k]?=w0.heap[k]?
 own:∀id B c,id<H.length→φ id=some (B,c)→B<w0.heap.size→∃id0 c0,id0<H0.length∧φ0 id0=some (B,c0)
 mono:∀a,N0 a→N a
 bM:∀id o,H0[id]?=some o→∃o',H[id]?=some o'∧o'.k=o.k∧o.ver≤o'.ver∧(o.ver=o'.ver→φ id=φ0 id∧o.len≤o'.len)∧∀kk es,o= .mp kk es→φ id=φ0 id∧∃es',o'= .mp kk es'
 nU:∀a,N a→N0 a∨w0.heap.size≤a.block∨∃id c,id<H0.length∧φ0 id=some (a.block,c)
theorem au.x{H H':aa}{φ φ':aK}{N N':Addr→Prop}{w w':World}(h:au H φ N w H' φ' N' w')(X:Nat):fw X H φ N w H' φ' N' w':=
 ⟨h.len,h.os,h.tape,h.output,h.size,fun k hk _=>h.cM k hk,h.own,h.mono,h.bM,h.nU⟩
theorem fw.trans{X:Nat}{H0 H1 H2:aa}{φ0 φ1 φ2:aK}{N0 N1 N2:Addr→Prop}{w0 w1 w2:World}(h:fw X H0 φ0 N0 w0 H1 φ1 N1 w1)(g:fw X H1 φ1 N1 w1 H2 φ2 N2 w2):fw X H0 φ0 N0 w0 H2 φ2 N2 w2 where
 len:=Nat.le_trans h.len g.len
 os:=g.os.trans h.os
 tape:=g.tape.trans h.tape
 output:=g.output.trans h.output
 size:=Nat.le_trans h.size g.size
 cM k hk hx hn:=by
  rw[g.cM k (Nat.lt_of_lt_of_le hk h.size) hx ?_,h.cM k hk hx hn]
  intro id c hid hc
  obtain⟨id0,c0,hi0,h0⟩:=h.own id k c hid hc hk
  exact hn id0 c0 hi0 h0
 own id _ c hid hc hB:=by
  obtain⟨id1,c1,hi1,h1⟩:=g.own id _ c hid hc (Nat.lt_of_lt_of_le hB h.size)
  exact h.own id1 _ c1 hi1 h1 hB
 mono a ha:=g.mono a (h.mono a ha)
 bM id o ho:=by
  obtain⟨o1,ho1,hk1,hv1,hq1,hm1⟩:=h.bM id o ho
  obtain⟨o2,ho2,hk2,hv2,hq2,hm2⟩:=g.bM id o1 ho1
  refine⟨o2,ho2,hk2.trans hk1,Nat.le_trans hv1 hv2,fun he=>?_,fun kk es he=>?_⟩
  ·obtain⟨p1,l1⟩:=hq1 (by omega)
   obtain⟨p2,l2⟩:=hq2 (by omega)
   exact⟨p2.trans p1,Nat.le_trans l1 l2⟩
  ·obtain⟨p1,es1,e1⟩:=hm1 kk es he
   obtain⟨p2,es2,e2⟩:=hm2 kk es1 e1
   exact⟨p2.trans p1,es2,e2⟩
 nU a ha:=by
  rcases g.nU a ha with h1|h1|⟨id,c,hid,hp⟩
  ·exact h.nU a h1
  ·exact .inr (.inl (Nat.le_trans h.size h1))
  ·rcases Nat.lt_or_ge a.block w0.heap.size with hl|hl
   ·obtain⟨id0,c0,h2,h3⟩:=h.own id _ c hid hp hl
    exact .inr (.inr ⟨id0,c0,h2,h3⟩)
   ·exact .inr (.inl hl)
theorem fw.put{X:Nat}{H H':aa}{φ φ':aK}{N N':Addr→Prop}{w w':World}(h:fw X H φ N w H' φ' N' w')(o:Obj):fw X H φ N w H' φ' N' (w'.putObj X o)where
 len:=h.len
 os:=h.os
 tape:=h.tape
 output:=h.output
 size:=by rw[World.putObj_size];exact h.size
 cM k hk hx hn:=(World.putObj_heap_other hx).trans (h.cM k hk hx hn)
 own:=h.own
 mono:=h.mono
 bM:=h.bM
 nU:=h.nU
theorem au.both{H H':aa}{φ φ':aK}{N N':Addr→Prop}{w w':World}{X:Nat}(h:au H φ N w H' φ' N' w')(hX:X<w.heap.size)(o:Obj):au H φ N (w.putObj X o) H' φ' N' (w'.putObj X o)where
 len:=h.len
 os:=h.os
 tape:=h.tape
 output:=h.output
 size:=by simp only[World.putObj_size];exact h.size
 cM k hk hn:=by
  rw[World.putObj_size]at hk
  by_cases e:k=X
  ·subst e
   rw[World.putObj_heap_same hX,World.putObj_heap_same (Nat.lt_of_lt_of_le hX h.size)]
  ·rw[World.putObj_heap_other e,World.putObj_heap_other e]
   exact h.cM k hk hn
 own id B c hid hp hB:=h.own id B c hid hp (by rw[World.putObj_size]at hB;exact hB)
 mono:=h.mono
 bM:=h.bM
 nU a ha:=by rw[World.putObj_size];exact h.nU a ha
theorem au.KH{H H':aa}{φ φ':aK}{N N':Addr→Prop}{w w':World}{X:Nat}{o:Obj}(h:au H φ N (w.putObj X o) H' φ' N' w'):fw X H φ N w H' φ' N' w' where
 len:=h.len
 os:=h.os
 tape:=h.tape
 output:=h.output
 size:=by have:=h.size;rwa[World.putObj_size]at this
 cM k hk hx hn:=(h.cM k (by rw[World.putObj_size];exact hk) hn).trans (World.putObj_heap_other hx)
 own id B c hid hp hB:=h.own id B c hid hp (by rw[World.putObj_size];exact hB)
 mono:=h.mono
 bM:=h.bM
 nU a ha:=by have:=h.nU a ha;rwa[World.putObj_size]at this
theorem fw.since{X:Nat}{H H':aa}{φ φ':aK}{N N':Addr→Prop}{w w':World}(h:fw X H φ N w H' φ' N' w')(hX:w.heap.size≤X):au H φ N w H' φ' N' w':=
 ⟨h.len,h.os,h.tape,h.output,h.size,fun k hk hn=>h.cM k hk (by omega) hn,h.own,h.mono,h.bM,h.nU⟩
theorem au.pre{H0 H T:aa}{φ0 φ:aK}{N0 N:Addr→Prop}{w0 w:World}(h:au H0 φ0 N0 w0 (H++T) φ N w)(hl:H0.length≤H.length):au H0 φ0 N0 w0 H φ N w where
 len:=hl
 os:=h.os
 tape:=h.tape
 output:=h.output
 size:=h.size
 cM:=h.cM
 own id B c hid:=h.own id B c (by simp;omega)
 mono:=h.mono
 bM id o ho:=by
  obtain⟨o',h1,h2⟩:=h.bM id o ho
  exact⟨o',by rwa[List.getElem?_append_left (by have:=aj ho;omega)]at h1,h2⟩
 nU:=h.nU
theorem Cy{Hk H3 T:aa}{φ φ3:aK}{N N3:Addr→Prop}{w w4:World}{r r4:Loop}{s:Nat→AV}{B c:Nat}(hR:Rel (Hk++ .lp r s::T) φ N w)(hB:φ Hk.length=some (B,c))(hX:fw B Hk φ N w H3 φ3 N3 w4)
  (hR3:Rel H3 φ3 N3 w4) (hl:H3.length=Hk.length) (hb:w4.heap[B]?=some (.loop r4)) (ht:r4.tmps=r.tmps):
  ∃φ',Rel (H3++ .lp r4 s::T) φ' N3 w4∧au (Hk++ .lp r s::T) φ N w (H3++ .lp r4 s::T) φ' N3 w4:=by
 let φ':aK:=fun i=>if i<Hk.length then φ3 i else φ i
 have e1:∀i,i<Hk.length→φ' i=φ3 i:=fun i hi=>if_pos hi
 have e2:∀i,Hk.length≤i→φ' i=φ i:=fun i hi=>if_neg (by omega)
 have hll:(H3++ay.lp r4 s::T).length=(Hk++ay.lp r s::T).length:=by simp[hl]
 have hlp:(Hk++ay.lp r s::T)[Hk.length]?=some (.lp r s):=by simp
 have hml:Hk.length<(Hk++ay.lp r s::T).length:=by simp
 have getT:∀i o,Hk.length<i→(Hk++ay.lp r s::T)[i]?=some o→(H3++ay.lp r4 s::T)[i]?=some o:=by
  intro i o hi h
  rw[List.getElem?_append_right (by omega)]at h⊢
  rw[hl]
  rw[show i-Hk.length=(i-Hk.length-1)+1 from by omega]at h⊢
  exact h
 have getT':∀i o,Hk.length<i→(H3++ay.lp r4 s::T)[i]?=some o→(Hk++ay.lp r s::T)[i]?=some o:=by
  intro i o hi h
  rw[List.getElem?_append_right (by omega)]at h⊢
  rw[hl]at h
  rw[show i-Hk.length=(i-Hk.length-1)+1 from by omega]at h⊢
  exact h
 have hS:au (Hk++ .lp r s::T) φ N w (H3++ .lp r4 s::T) φ' N3 w4:=by
  refine⟨by rw[hll];exact Nat.le_refl _,hX.os,hX.tape,hX.output,hX.size,fun k hk hn=>?_,fun id B' c' hid hp hlt=>?_,hX.mono,fun id o ho=>?_,fun a ha=>?_⟩
  ·exact hX.cM k hk (fun e=>hn _ c hml (by rw[e];exact hB)) fun id c' hid=>hn id c' (by simp;omega)
  ·rcases Nat.lt_or_ge id Hk.length with hi|hi
   ·rw[e1 id hi]at hp
    obtain⟨id0,c0,h1,h2⟩:=hX.own id B' c' (by omega) hp hlt
    exact⟨id0,c0,by simp;omega,h2⟩
   ·rw[e2 id hi]at hp
    exact⟨id,c',by omega,hp⟩
  ·rcases Nat.lt_trichotomy id Hk.length with hi|hi|hi
   ·rw[List.getElem?_append_left hi]at ho
    obtain⟨o',h1,h2⟩:=hX.bM id o ho
    exact⟨o',by rw[List.getElem?_append_left (by omega)];exact h1,by rw[e1 id hi];exact h2⟩
   ·subst hi
    rw[hlp]at ho;cases ho
    exact⟨.lp r4 s,by rw[←hl];simp,rfl,Nat.le_refl _,fun _=>⟨e2 _ (Nat.le_refl _),Nat.le_refl _⟩,fun kk es he=>by cases he⟩
   ·exact⟨o,getT id o hi ho,rfl,Nat.le_refl _,fun _=>⟨e2 _ (by omega),Nat.le_refl _⟩,fun kk es he=>⟨e2 _ (by omega),es,he⟩⟩
  ·rcases hX.nU a ha with h1|h1|⟨id,c',h1,h2⟩
   ·exact .inl h1
   ·exact .inr (.inl h1)
   ·exact .inr (.inr ⟨id,c',by simp;omega,h2⟩)
 have own3:∀i B' c',i<Hk.length→φ3 i=some (B',c')→∀j c'',Hk.length≤j→j<(Hk++ay.lp r s::T).length→φ j≠some (B',c''):=by
  intro i B' c' hi hp j c'' hj hj2 hpj
  obtain⟨id0,c0,h1,h2⟩:=hX.own i B' c' (by omega) hp (hR.cj hj2 hpj)
  have:=hR.inj id0 j B' c0 c'' (by simp;omega) hj2 h2 hpj
  omega
 refine⟨φ',⟨fun id o ho=>?_,fun i j B' c1 c2 hi hj h1 h2=>?_,hR3.live,fun a id B' c' ha hid hp=>?_⟩,hS⟩
 ·rcases Nat.lt_trichotomy id Hk.length with hi|hi|hi
  ·rw[List.getElem?_append_left (by omega)]at ho
   exact(hR3.obj id o ho).ext (by omega) fun i hi=>e1 i (by omega)
  ·subst hi
   have ho':(H3++ay.lp r4 s::T)[Hk.length]?=some (.lp r4 s):=by rw[←hl];simp
   rw[ho']at ho;cases ho
   cases hR.obj _ _ hlp with
   |lp _ _ B' c' hp' hb' hh=>
   rw[hB]at hp';cases hp'
   exact .lp r4 s B c ((e2 _ (Nat.le_refl _)).trans hB) hb fun t=>by rw[ht];exact(hh t).since hR hS
  ·have h0:=getT' id o hi ho
   refine(hR.obj id o h0).cM hR hS (e2 id (by omega)) fun B' c' hp=>?_
   refine hX.cM B' (hR.cj (aj h0) hp) (fun e=>?_) fun id0 c0 h1 h2=>?_
   ·subst e
    have:=hR.inj id Hk.length B' c' c (aj h0) hml hp hB
    omega
   ·have:=hR.inj id id0 B' c' c0 (aj h0) (by simp;omega) hp h2
    omega
 ·rw[hll]at hi hj
  rcases Nat.lt_or_ge i Hk.length with a|a<;>rcases Nat.lt_or_ge j Hk.length with b|b
  ·rw[e1 i a]at h1;rw[e1 j b]at h2
   exact hR3.inj i j B' c1 c2 (by omega) (by omega) h1 h2
  ·rw[e1 i a]at h1;rw[e2 j b]at h2
   exact absurd h2 (own3 i B' c1 a h1 j c2 b hj)
  ·rw[e2 i a]at h1;rw[e1 j b]at h2
   exact absurd h1 (own3 j B' c2 b h2 i c1 a hi)
  ·rw[e2 i a]at h1;rw[e2 j b]at h2
   exact hR.inj i j B' c1 c2 hi hj h1 h2
 ·rw[hll]at hid
  rcases Nat.lt_or_ge id Hk.length with hi|hi
  ·rw[e1 id hi]at hp
   exact hR3.apart a id B' c' ha (by omega) hp
  ·rw[e2 id hi]at hp
   intro e
   rcases hX.nU a ha with h1|h1|⟨id0,c0,h1,h2⟩
   ·exact hR.apart a id B' c' h1 hid hp e
   ·have:=hR.cj hid hp
    omega
   ·rw[e]at h2
    have:=hR.inj id id0 B' c' c0 hid (by simp;omega) hp h2
    omega
theorem nF{P:Program}{F:Fence}{c:Code}{Q:Exit→Act→World→Prop}:∀(m n:Nat),m≤n→∀a w,Code.roundsIn F 0 P c Q m a w→Code.roundsIn F 0 P c Q n a w
 |0,_,_,_,_,h=>h.elim
 |m+1,0,hle,_,_,_=>by omega
 |m+1,n+1,hle,a,w,h=>wpIn_mono h fun e a w hq=>by
  cases e with
  |normal=>exact nF m n (by omega) a w hq
  |_=>exact hq
theorem uf{P:Program}{F:Fence}{c:Code}{Q:Exit→Act→World→Prop}(J:Nat→Act→World→Prop){n:Nat}{a:Act}{w:World}
  (round:∀n a w,J n a w→c.wpIn F 0 P (Exit.then (fun a' w'=>∃m,m<n∧J m a' w') Q) a w) (h0:J n a w):(Code.loop c).wpIn F 0 P Q a w:=by
 refine wpIn_loop_rounds (n+1) ?_
 induction n using Nat.strongRecOn generalizing a w with
 |_ n ih=>
  rw[roundsIn_succ]
  refine wpIn_mono (round n a w h0) fun e a' w' hq=>?_
  cases e with
  |normal=>
   obtain⟨m,hm,hJ⟩:=hq
   exact nF (m+1) n (by omega) _ _ (ih m hm hJ)
  |_=>exact hq
theorem yw{P:Program}{F:Fence}{c:Code}{Q:Exit→Act→World→Prop}{a:Act}{w:World}(h:c.wpIn F 0 P (Exit.noGoto Q) a w):(Code.scope c).wpIn F 0 P Q a w:=by
 intro b k cs hro hb hr
 have s1:step P (lone (b.atR a (.code (.scope c)::k)) cs w)= .next (lone (b.atR a (.code c:: .inScope c::k)) cs w):=step_lone_go (by simp[stepG,stepG.exec,Frame.atR])
 have s2:∀(a:Act) (w:World),step P (lone (b.atR a (.inScope c::k)) cs w)= .next (lone (b.atR a k) cs w):=fun a w=>step_lone_go (by simp[stepG,stepG.exec,Frame.atR])
 have f1:(lone (b.atR a (.code (.scope c)::k)) cs w).fenced P F:=fenced_calm (fr:=b.atR a (.code (.scope c)::k)) hb hr rfl
 obtain⟨e,a₁,w₁,hq,harr⟩:=h b (.inScope c::k) cs hro hb hr
 cases e with
 |normal=>exact⟨.normal,a₁,w₁,hq,.head f1 s1 (StepsIn.trans harr (.one (fenced_calm (fr:=b.atR a₁ (.inScope c::k)) hb hr rfl) (s2 _ _)))⟩
 |exit id=>exact⟨.exit id,a₁,w₁,hq,.of_steps (.one f1 s1) ⟨fun k' hk=>harr.1 k' (by simp[exitTo,hk]),fun hr' hk=>harr.2 hr' (by simp[exitTo,hk])⟩⟩
 |goto l=>exact hq.elim
 |ret=>exact⟨.ret,a₁,w₁,hq,.of_steps (.one f1 s1) (show ArrivesIn _ P _ b k cs (.ret) a₁ w₁ from harr)⟩
 |panic ch=>exact⟨.panic ch,a₁,w₁,hq,.of_steps (.one f1 s1) (show ArrivesIn _ P _ b k cs (.panic ch) a₁ w₁ from harr)⟩
 |outgrown=>exact⟨.outgrown,a₁,w₁,hq,.of_steps (.one f1 s1) (show ArrivesIn _ P _ b k cs (.outgrown) a₁ w₁ from harr)⟩
theorem rF{H:aa}{φ:aK}{N:Addr→Prop}{w:World}{n:Nat}:∀(ps:List Tmp) (xs:List AV) (vs:List Value) {s:Nat→AV} {tmps:Array Value},xs.length=vs.length→(∀i (h1:i<xs.length) (h2:i<vs.length),RA H φ N w (xs[i]) (vs[i]))→tmps.size=n→
  (∀t,RA H φ N w (s t) (tmps.getD t undef))→(((ps.zip vs).foldl (fun t (p:Tmp×Value)=>t.setIfInBounds p.1 p.2) tmps).size=n∧∀t,RA H φ N w (iT n s ps xs t) (((ps.zip vs).foldl (fun t (p:Tmp×Value)=>t.setIfInBounds p.1 p.2) tmps).getD t undef))
 |[],_,_,s,tmps,_,_,hs,h=>⟨hs,h⟩
 |_::_,[],[],s,tmps,_,_,hs,h=>⟨hs,h⟩
 |_::_,[],_::_,_,_,hl,_,_,_=>by simp at hl
 |_::_,_::_,[],_,_,hl,_,_,_=>by simp at hl
 |p::ps,x::xs,v::vs,s,tmps,hl,hx,hs,h=>by
  have h1:bI H φ N w (bp n s (some p) x) (({tmps:=tmps,defers:=[]}:Act).put (some p) v):=bI.put (a:={tmps:=tmps,defers:=[]}) h (hx 0 (by simp) (by simp)) hs
  exact rF ps xs vs (by simpa using hl) (fun i h1 h2=>hx (i+1) (by simp;omega) (by simp;omega)) (by simpa using hs) h1
theorem Cg(ps:Array Tmp)(vs:Array Value)(tmps:Array Value):((ps.zip vs).foldl (fun t (x:Tmp×Value)=>match x with|(t1,a)=>t.setIfInBounds t1 a) tmps)=((ps.toList.zip vs.toList).foldl (fun t (p:Tmp×Value)=>t.setIfInBounds p.1 p.2) tmps):=by
 rw[←Array.toList_zip,Array.foldl_toList]
theorem BV{P:Program}{hint':Nat→Bool}{n:Nat}{x y:Code}(hh:hint' 2000000=false)
  (ihx:∀{l:Nat} {hint:Nat→Bool} {H0:aa} {φ0:aK} {N0:Addr→Prop} {w0:World} {ds:DS} (hmk:hint 2000000=true→ds.marks=true∧Fence.wide.inRound l=Fence.wide) (hR0:Rel H0 φ0 N0 w0) (Q:aQ) {s:Nat→AV} {H:aa} {φ:aK} {N:Addr→Prop} {a:Act} {w:World},Inv H0 φ0 N0 w0 n ds s H φ N a w→cE P hint n H0 x Q s H→x.wpIn (Fence.wide.inRound l) 0 P (jX H0 φ0 N0 w0 n ds Q) a w)
  (ihy:∀{l:Nat} {hint:Nat→Bool} {H0:aa} {φ0:aK} {N0:Addr→Prop} {w0:World} {ds:DS} (hmk:hint 2000000=true→ds.marks=true∧Fence.wide.inRound l=Fence.wide) (hR0:Rel H0 φ0 N0 w0) (Q:aQ) {s:Nat→AV} {H:aa} {φ:aK} {N:Addr→Prop} {a:Act} {w:World},Inv H0 φ0 N0 w0 n ds s H φ N a w→cE P hint n H0 y Q s H→y.wpIn (Fence.wide.inRound l) 0 P (jX H0 φ0 N0 w0 n ds Q) a w)
  {r:Loop} {s0:Nat→AV} {Hk T:aa} {m:Nat} {args:List AV} {In:aa→Prop} {Ix:AX→aa→Prop} (hm:Hk.length=m) (hbel:kC Hk.length Hk) (hsb:∀t,jF Hk.length (s0 t))
  (hrx:r.assign=x) (hry:r.body=y) (hrs:r.state= .ready) (hrp:r.pending=none) (hrt:r.tmps.size=n) (hpa:args.length=r.params.size) (hab:∀v∈args,jF Hk.length v)
  (h:cE P hint' n Hk x (fun e s1 H2=>match e with
    | .normal=>cE P hint' n Hk y (fun e s2 H3=>∃s3 H4,ak Hk s2 H3 s3 H4∧H4.length=m∧(match e with| .normal=>In H4| .panic _=>False|e=>Ix e H4)) s1 H2
    |_=>False) (iT n s0 r.params.toList args) Hk):
  tI P (Hk++ .lp r s0::T) m args fun b G=>if b=true then ∃Hk',(In Hk'∧kC Hk'.length Hk'∧Hk'.length=m)∧G=Hk'++ .lp r s0::T else ∃Hk' c,(∃e,AX.jump e=some c∧Ix e Hk'∧kC Hk'.length Hk')∧kC m Hk'∧Hk'.length=m∧G=Hk'++ .lp (qU r c) s0::T:=by
 subst hm
 have hlp:(Hk++ay.lp r s0::T)[Hk.length]?=some (.lp r s0):=by simp
 have hml:Hk.length<(Hk++ay.lp r s0::T).length:=by simp
 refine⟨⟨r,s0,hlp⟩,fun φ N w vals B c hR hA hB=>?_⟩
 cases hR.obj _ _ hlp with
 |lp _ _ B' c' hp hb hts=>
 rw[hB]at hp;cases hp
 have hRk:=hR.pre hbel
 have hvl:vals.size=r.params.size:=by rw[←hA.1];exact hpa
 have hy:=run_yield (P:=P) (args:=vals) hb hvl
 obtain⟨fz1,fz2⟩:=rF (n:=n) r.params.toList args vals.toList (s:=s0) (tmps:=r.tmps) (by rw[Array.length_toList];exact hA.1) (fun i h1 h2=>(hA.2 i h1 (by simpa using h2)).pre (hab _ (List.getElem_mem h1))) hrt (fun t=>(hts t).pre (hsb t))
 rw[←Cg]at fz1 fz2
 refine⟨_,_,_,_,hy,roundIn_of_wpIn trivial ?_⟩
 rw[hrx,hry]
 have hI:Inv Hk φ N w n ⟨false,[]⟩ (iT n s0 r.params.toList args) Hk φ N {tmps:=(r.params.zip vals).foldl (fun t (x:Tmp×Value)=>match x with|(t1,a)=>t.setIfInBounds t1 a) r.tmps,defers:=[]} w:=
  ⟨hRk,fz2,au.refl,fz1,jk.refl⟩
 refine wpIn_mono (ihx (fun e=>by rw[hh]at e;cases e) hRk _ hI h) ?_
 rintro e a1 w1 ⟨ax,s1,H1,φ1,N1,rfl,hq,hI1⟩
 cases ax with
 |exit _=>exact hq.elim
 |ret=>exact hq.elim
 |panic _=>exact hq.elim
 |normal=>
 have hBout:∀id c',id<Hk.length→φ id≠some (B,c'):=fun id c' hid hp=>by
  have:=hR.inj id Hk.length B c' c (by simp;omega) hml hp hB
  omega
 have hBlt:B<w.heap.size:=(Array.getElem?_eq_some_iff.1 hb).1
 have hBout1:∀id c',id<H1.length→φ1 id≠some (B,c'):=fun id c' hid hp=>by
  obtain⟨id0,c0,h1,h2⟩:=hI1.since.own id B c' hid hp hBlt
  exact hBout id0 c0 h1 h2
 have hb1:w1.heap[B]?=some (.loop r):=(hI1.since.cM B hBlt hBout).trans hb
 refine⟨_,run_beginRound hb1 hrs,?_⟩
 generalize hrb:({r with state:= .busy}:Loop)=rb
 obtain⟨hR2,hra2⟩:=hI1.rel.put (o':= .loop rb) hb1 (fun _ _ _ e=>by cases e) hBout1
 obtain⟨hRb,_⟩:=hRk.put (o':= .loop rb) hb (fun _ _ _ e=>by cases e) hBout
 have hI2:Inv Hk φ N (w.putObj B (.loop rb)) n ⟨false,a1.defers⟩ s1 H1 φ1 N1 a1 (w1.putObj B (.loop rb)):=⟨hR2,fun t=>hra2 _ _ (hI1.tmps t),hI1.since.both hBlt _,hI1.size,jk.refl⟩
 refine wpIn_mono (ihy (fun e=>by rw[hh]at e;cases e) hRb _ hI2 hq) ?_
 rintro e a2 w3 ⟨ax2,s2,H2,φ2,N2,rfl,⟨s3,H4,hW,hl4,hq2⟩,hI3⟩
 obtain⟨φ3,N3,hI4⟩:=hW.ok hRb hI3
 have hb4:w3.heap[B]?=some (.loop rb):=(hI4.since.cM B (by rw[World.putObj_size];exact hBlt) hBout).trans (World.putObj_heap_same hBlt)
 have hBout4:∀id c',id<H4.length→φ3 id≠some (B,c'):=fun id c' hid hp=>by
  obtain⟨id0,c0,h1,h2⟩:=hI4.since.own id B c' hid hp (by rw[World.putObj_size];exact hBlt)
  exact hBout id0 c0 h1 h2
 have fin:∀(jump:Option Code),∃r4 w4,(Instr.endRound B jump).run P w3= .ok (.bool jump.isNone) w4∧r4={r with state:=if jump.isNone then .ready else .done,pending:=jump}∧
   ∃φ',Rel (H4++ .lp r4 s0::T) φ' N3 w4∧au (Hk++ .lp r s0::T) φ N w (H4++ .lp r4 s0::T) φ' N3 w4:=by
  intro jump
  have hend:=run_endRound (P:=P) jump hb4
  obtain⟨hR5,_⟩:=hI4.rel.put (o':= .loop {rb with state:=if jump.isNone then .ready else .done,pending:=jump}) hb4 (fun _ _ _ e=>by cases e) hBout4
  have hX:=hI4.since.KH.put (.loop {rb with state:=if jump.isNone then .ready else .done,pending:=jump})
  have hb5:(w3.putObj B (.loop {rb with state:=if jump.isNone then .ready else .done,pending:=jump})).heap[B]?=some (.loop {rb with state:=if jump.isNone then .ready else .done,pending:=jump}):=World.putObj_heap_same (Array.getElem?_eq_some_iff.1 hb4).1
  obtain⟨φ',hR6,hS6⟩:=Cy hR hB hX hR5 hl4 hb5 (by rw[←hrb])
  exact⟨_,_,hend,by rw[←hrb],φ',hR6,hS6⟩
 have hob4:=hI4.rel.H6
 have stop:∀c,Ix ax2 H4→AX.jump ax2=some c→∃v w4,(Instr.endRound B (some c)).run P w3= .ok v w4∧∃b H' φ' N',Ending.returned v= .returned (.bool b)∧
   (if b=true then ∃Hk',(In Hk'∧kC Hk'.length Hk'∧Hk'.length=Hk.length)∧H'=Hk'++ .lp r s0::T else ∃Hk' c,(∃e,AX.jump e=some c∧Ix e Hk'∧kC Hk'.length Hk')∧kC Hk.length Hk'∧Hk'.length=Hk.length∧H'=Hk'++ .lp (qU r c) s0::T)∧Rel H' φ' N' w4∧au (Hk++ .lp r s0::T) φ N w H' φ' N' w4:=by
  intro c hix hj
  obtain⟨r4,w4,hend,hr4,φ',hR6,hS6⟩:=fin (some c)
  refine⟨_,w4,hend,false,_,φ',N3,rfl,?_,hR6,hS6⟩
  rw[if_neg (by simp)]
  exact⟨H4,c,⟨ax2,hj,hix,hob4⟩,by rw[←hl4];exact hob4,hl4,by rw[hr4];rfl⟩
 cases ax2 with
 |normal=>
  obtain⟨r4,w4,hend,hr4,φ',hR6,hS6⟩:=fin none
  refine⟨_,w4,hend,true,_,φ',N3,rfl,?_,hR6,hS6⟩
  show(if true=true then _ else _)
  rw[if_pos rfl]
  refine⟨H4,⟨hq2,hob4,hl4⟩,?_⟩
  have:r4=r:=by
   rw[hr4]
   cases r
   simp only at hrs hrp
   subst hrs hrp
   rfl
  rw[this]
 |ret=>exact stop .ret hq2 rfl
 |exit id=>exact stop (.exit id) hq2 rfl
 |panic v=>exact hq2.elim
theorem CG{P:Program}{n:Nat}{x y:Code}{g:Operand}{ps:Array Tmp}{H0:aa}{φ0:aK}{N0:Addr→Prop}{w0:World}{ds:DS}(hmk:ds.marks=true)(hR0:Rel H0 φ0 N0 w0)
  (ihx:∀{l:Nat} {hint:Nat→Bool} {H0:aa} {φ0:aK} {N0:Addr→Prop} {w0:World} {ds:DS} (hmk:hint 2000000=true→ds.marks=true∧Fence.wide.inRound l=Fence.wide) (hR0:Rel H0 φ0 N0 w0) (Q:aQ) {s:Nat→AV} {H:aa} {φ:aK} {N:Addr→Prop} {a:Act} {w:World},Inv H0 φ0 N0 w0 n ds s H φ N a w→cE P hint n H0 x Q s H→x.wpIn (Fence.wide.inRound l) 0 P (jX H0 φ0 N0 w0 n ds Q) a w)
  (ihy:∀{l:Nat} {hint:Nat→Bool} {H0:aa} {φ0:aK} {N0:Addr→Prop} {w0:World} {ds:DS} (hmk:hint 2000000=true→ds.marks=true∧Fence.wide.inRound l=Fence.wide) (hR0:Rel H0 φ0 N0 w0) (Q:aQ) {s:Nat→AV} {H:aa} {φ:aK} {N:Addr→Prop} {a:Act} {w:World},Inv H0 φ0 N0 w0 n ds s H φ N a w→cE P hint n H0 y Q s H→y.wpIn (Fence.wide.inRound l) 0 P (jX H0 φ0 N0 w0 n ds Q) a w)
  {Q:aQ} {s:Nat→AV} {H:aa} {φ:aK} {N:Addr→Prop} {a:Act} {w:World} (hI:Inv H0 φ0 N0 w0 n ds s H φ N a w)
  (h:∃(hint':Nat→Bool) (gf:FuncId) (caps:List AV) (xs:List (List AV)) (C:aa→Prop) (I:Nat→aa→Prop) (Ix:AX→aa→Prop) (s0:Nat→AV) (H1:aa),
   hint' 2000000=false∧ak H0 s H s0 H1∧ah s0 g= .fn gf caps∧mz P gf caps C xs∧(∀v∈xs,v.length=ps.size∧∀u∈v,jF H1.length u)∧I 0 H1∧(∀k Hk,I k Hk→C Hk∧Hk.length=H1.length)∧
   (∀k (hk:k<xs.length) Hk,I k Hk→cE P hint' n Hk x (fun e s1 H2=>match e with
    | .normal=>cE P hint' n Hk y (fun e s2 H3=>∃s3 H4,ak Hk s2 H3 s3 H4∧H4.length=H1.length∧(match e with| .normal=>I (k+1) H4| .panic _=>False|e=>Ix e H4)) s1 H2
    |_=>False) (iT n s0 ps.toList (xs[k])) Hk)∧
   (∀Hn,I xs.length Hn→Q .normal s0 Hn)∧∀e Hx,Ix e Hx→Q e s0 Hx):
  (Code.rangeFunc g ps x y).wpIn Fence.wide 0 P (jX H0 φ0 N0 w0 n ds Q) a w:=by
 obtain⟨hint',gf,caps,xs,C,I,Ix,s0,H1,hh,hW,hg,hseq,hxs,h0,hIC,hround,hdone,hstop⟩:=h
 obtain⟨φ1,N1,hI1⟩:=hW.ok hR0 hI
 have hgv:=ar hI1.tmps g
 rw[hg]at hgv
 generalize hge:a.eval g=gv at hgv
 cases hgv with
 |fn _ _ vs hcl hcv=>
 refine wpIn_rangeFunc fun fn _=>?_
 have hlt0:w0.heap.size≤w.heap.size:=hI1.since.size
 let r:Loop:={state:= .ready,pending:=none,fn:=fn,tmps:=a.tmps,params:=ps,assign:=x,body:=y,defers:=w.heap.size}
 have hRd:Rel H1 φ1 N1 (w.alloc (.deferred (some [])))∧au H1 φ1 N1 w H1 φ1 N1 (w.alloc (.deferred (some []))):=by
  have hS:=au.fixed hI1.rel (.deferred (some [])) N1 (fun _ h=>h) (fun _ h=> .inl h)
  exact⟨hI1.rel.off (fun id B c hid hp=>Below.heap_alloc w _ B (hI1.rel.cj hid hp)) fun a v _ hv=>by
   rw[World.cell?_of_block (w:=w) (Below.heap_alloc w _ _ (World.block_lt_of_cell? w a hv))];exact hv,hS⟩
 obtain⟨hRd,hSd⟩:=hRd
 have hDd:(w.alloc (.deferred (some []))).heap[w.heap.size]?=some (.deferred (some [])):=World.alloc_heap_new w _
 have hSl:=au.new hRd (.loop r) (.lp r s0) 0
 have hts1:∀t,RA (H1++[.lp r s0]) (φ1.put H1.length (some ((w.alloc (.deferred (some []))).heap.size,0))) N1 ((w.alloc (.deferred (some []))).alloc (.loop r)) (s0 t) (r.tmps.getD t undef):=fun t=>((hI1.tmps t).since hI1.rel hSd).since hRd hSl
 have hRl:=hRd.new (.loop r) (.lp r s0) 0 (.lp r s0 _ 0 (aK.aD _ _ _) (World.alloc_heap_new _ _) hts1)
 have hDl:((w.alloc (.deferred (some []))).alloc (.loop r)).heap[w.heap.size]?=some (.deferred (some [])):=(Below.heap_alloc _ _ _ (by simp)).trans hDd
 have hSw:=hSd.trans hSl
 have hDout1:∀id c,id<(H1++[ay.lp r s0]).length→(φ1.put H1.length (some ((w.alloc (.deferred (some []))).heap.size,0))) id≠some (w.heap.size,c):=by
  intro id c hid hp
  by_cases e:id=H1.length
  ·subst e
   rw[aK.aD]at hp
   have:=(Prod.mk.inj (Option.some.inj hp)).1
   simp at this
  ·rw[aK.aR _ _ _ _ e]at hp
   have:=hI1.rel.cj (by simp at hid;omega) hp
   omega
 have hpl:(φ1.put H1.length (some ((w.alloc (.deferred (some []))).heap.size,0))) H1.length=some (w.heap.size+1,0):=by rw[aK.aD];simp
 have henter:=run_enterLoop_outer (P:=P) (w:=w) fn a.tmps ps x y
 have hsz1:(w.alloc (.deferred (some []))).heap.size=w.heap.size+1:=by simp
 generalize (φ1.put H1.length (some ((w.alloc (.deferred (some []))).heap.size,0)))=φ2 at*
 have hB:∃W1,(w.alloc (.deferred (some []))).alloc (.loop r)=W1:=⟨_,rfl⟩
 obtain⟨W1,hW1⟩:=hB
 have henter':(Instr.enterLoop fn a.tmps ps x y none).run P w= .ok (w.heap.size+1,[{target:= .collected w.heap.size,args:=#[]}]) W1:=by rw[←hW1];exact henter
 rw[hW1]at hRl hDl hSw hts1
 clear henter hW1 hSl hRd hSd hDd
 have hbelS:∀t,jF H1.length (s0 t):=fun t=>(hI1.tmps t).bel
 have hlen1:(H1++[ay.lp r s0]).length=H1.length+1:=by simp
 have hcall:=hseq r s0 (fun k Hk=>I k Hk∧kC Hk.length Hk∧Hk.length=H1.length) (fun c Hx=>∃e,AX.jump e=some c∧Ix e Hx∧kC Hx.length Hx) H1.length H1 ⟨h0,hI1.rel.H6,rfl⟩ hbelS (fun k Hk hk=>⟨(hIC k Hk hk.1).1,by rw[←hk.2.2];exact hk.2.1,hk.2.2⟩)
  (fun k hk Hk T hJ=>BV (P:=P) hh ihx ihy hJ.2.2 hJ.2.1 (fun t=>by rw[hJ.2.2];exact hbelS t) rfl rfl rfl rfl hI1.size (hxs _ (List.getElem_mem hk)).1 (fun v hv=>by rw[hJ.2.2];exact(hxs _ (List.getElem_mem hk)).2 v hv) (hround k hk Hk hJ.1))
 have hyl:RA (H1++[.lp r s0]) φ2 N1 W1 (.gq H1.length) (.func (.yield (w.heap.size+1)) #[] #[]):= .gq _ _ (.lp r s0) (by simp) fun _=>⟨0,hpl⟩
 have hargs:p8 (H1++[.lp r s0]) φ2 N1 W1 (.gq H1.length::caps) (#[.func (.yield (w.heap.size+1)) #[] #[]]++vs):=by
  refine⟨by simp[hcl];omega,fun i h1 h2=>?_⟩
  cases i with
  |zero=>simpa using hyl
  |succ i=>
   rw[Array.getElem_append_right (by simp)]
   simp only[List.getElem_cons_succ]
   have:=(hcv i (by simp at h1;omega) (by simp at h2;omega)).since hI1.rel hSw
   simpa using this
 obtain⟨hrun,hC⟩:=hcall φ2 N1 W1 _ hRl hargs
 refine⟨w.heap.size+1,[{target:= .collected w.heap.size,args:=#[]}],W1,{target:= .fn (.func gf) vs,args:=#[.func (.yield (w.heap.size+1)) #[] #[]]},W1,gf,
  #[.func (.yield (w.heap.size+1)) #[] #[]]++vs,W1,henter',?_,fun _ _=>trivial,?_,fun h=>(by cases h),?_⟩
 ·simp only[resolve,hge]
  simp[go_sem,Deferred.ofValue]
 ·simpa[invoke]using hrun
 refine callsIn_wide.2 (Calls.mono hC ?_)
 rintro e w3 ⟨res,G,φ3,N3,⟨rfl,hG⟩,hR3,hS3,hE⟩
 cases e with
 |panicked ch=>exact hE.elim
 |outgrown=>exact hE.elim
 |returned v=>
 have fin:∀(Hn:aa) (r':Loop),G=Hn++[.lp r' s0]→kC Hn.length Hn→Hn.length=H1.length→r'.state≠ .busy→∃w4,(Instr.endLoop (w.heap.size+1)).run P w3= .ok r'.pending w4∧
   ∃φ' N',Inv H0 φ0 N0 w0 n ds s0 Hn φ' N' {a with defers:=[{target:= .collected w.heap.size,args:=#[]}]++a.defers} w4:=by
  rintro Hn r' rfl hbel hlen hbusy
  have hlp3:(Hn++[ay.lp r' s0])[Hn.length]?=some (.lp r' s0):=by simp
  have hp3:φ3 Hn.length=some (w.heap.size+1,0):=by
   obtain⟨o',ho',_,_,hq,_⟩:=hS3.bM H1.length (.lp r s0) (by simp)
   rw[←hlen,hlp3]at ho'
   cases ho'
   rw[←hpl,hlen]
   exact(hq rfl).1
  cases hR3.obj _ _ hlp3 with
  |lp _ _ B c hp hb hts=>
  rw[hp3]at hp
  obtain⟨rfl,rfl⟩:=Prod.mk.inj (Option.some.inj hp)
  have hend:=run_endLoop (P:=P) hb hbusy
  refine⟨_,hend,φ3,N3,?_⟩
  generalize hro:({r' with state:= .exhausted}:Loop)=ro
  have hRn:=hR3.pre hbel
  have hBout:∀id c',id<Hn.length→φ3 id≠some (w.heap.size+1,c'):=fun id c' hid hp=>by
   have:=hR3.inj id Hn.length _ c' 0 (by simp;omega) (by simp) hp hp3
   omega
  obtain⟨hRf,hraf⟩:=hRn.put (o':= .loop ro) hb (fun _ _ _ e=>by cases e) hBout
  have hSall:au H0 φ0 N0 w0 (Hn++[.lp r' s0]) φ3 N3 w3:=(hI1.since.trans hSw).trans hS3
  have hSn:=((hSall.pre (by rw[hlen];exact hI1.since.len)).x (w.heap.size+1)).put (.loop ro)|>.since (by omega)
  have hDlt:w.heap.size<W1.heap.size:=(Array.getElem?_eq_some_iff.1 hDl).1
  refine⟨hRf,fun t=>hraf _ _ ((((hI1.tmps t).since hI1.rel (hSw.trans hS3))).pre (by rw[hlen];exact hbelS t)),hSn,hI1.size,?_⟩
  obtain⟨ms,hms,_,hmarks⟩:=hI1.defers
  refine⟨{target:= .collected w.heap.size,args:=#[]}::ms,by simp[hms],fun e=>(by rw[hmk]at e;cases e),⟨w.heap.size,hlt0,rfl,?_,?_,?_⟩,?_⟩
  ·rw[World.putObj_heap_other (by omega)]
   exact(hS3.cM _ hDlt hDout1).trans hDl
  ·intro id c hid hp
   obtain⟨id0,c0,g1,g2⟩:=hS3.own id _ c (by simp;omega) hp hDlt
   exact hDout1 id0 c0 g1 g2
  ·intro d' hd' e
   have key:∀{ds:List Deferred},Marks w0.heap.size H1 φ1 w ds→∀d∈ds,∃D,D<w.heap.size∧d={target:= .collected D,args:=#[]}:=by
    intro ds
    induction ds with
    |nil=>intro _ d hd;cases hd
    |cons d0 ds ih=>
     rintro⟨⟨D,_,h1,h2,_⟩,h3⟩ d hd
     rcases List.mem_cons.1 hd with rfl|hd
     ·exact⟨D,(Array.getElem?_eq_some_iff.1 h2).1,h1⟩
     ·exact ih h3 d hd
   obtain⟨D,hD,hd2⟩:=key hmarks d' hd'
   rw[hd2]at e
   have:D=w.heap.size:=by injection e with e1;injection e1
   omega
  ·refine hmarks.mono fun D hD _ _ hn=>⟨?_,fun id c hid hp=>?_⟩
   ·rw[World.putObj_heap_other (by omega)]
    exact(hSw.trans hS3).cM D hD hn
   ·obtain⟨id0,c0,g1,g2⟩:=(hSw.trans hS3).own id D c (by simp;omega) hp hD
    exact hn id0 c0 g1 g2
 rcases hG with⟨Hn,⟨hIn,hbel,hlen⟩,hG⟩|⟨Hx,c,⟨ax,hj,hix,hbel⟩,hlen,hG⟩
 ·obtain⟨w4,hend,φ',N',hIf⟩:=fin Hn r hG hbel hlen (by simp[r])
  exact⟨none,w4,hend,.normal,s0,Hn,φ',N',rfl,hdone Hn hIn,hIf⟩
 ·obtain⟨w4,hend,φ',N',hIf⟩:=fin Hx (qU r c) hG hbel hlen (by simp[qU])
  refine⟨some c,w4,hend,?_⟩
  cases ax with
  |normal=>cases hj
  |panic v=>cases hj
  |ret=>cases hj;exact wpIn_ret ⟨.ret,s0,Hx,φ',N',rfl,hstop _ Hx hix,hIf⟩
  |exit id=>cases hj;exact wpIn_exit ⟨.exit id,s0,Hx,φ',N',rfl,hstop _ Hx hix,hIf⟩
theorem y5:∀(c:Code) {F:Fence} (hF:dG F) {hint:Nat→Bool} {H0:aa} {φ0:aK} {N0:Addr→Prop} {w0:World} {ds:DS} (hmk:hint 2000000=true→ds.marks=true∧F=Fence.wide) (hR0:Rel H0 φ0 N0 w0) (Q:aQ) {s:Nat→AV} {H:aa} {φ:aK} {N:Addr→Prop} {a:Act} {w:World},
  Inv H0 φ0 N0 w0 n ds s H φ N a w→cE P hint n H0 c Q s H→c.wpIn F 0 P (jX H0 φ0 N0 w0 n ds Q) a w:=by
 intro c
 induction c with
 |skip=>exact fun hF _ _ _ _ _ _ hmk hR0 Q s H φ N a w hI h=>wpIn_skip ⟨.normal,s,H,φ,N,rfl,h,hI⟩
 |label l=>exact fun hF _ _ _ _ _ _ hmk hR0 Q s H φ N a w hI h=>wpIn_label ⟨.normal,s,H,φ,N,rfl,h,hI⟩
 |region id ops draw=>
  intro F hF hint H0 φ0 N0 w0 ds hmk hR0 Q s H φ N a w hI h
  cases draw with
  |false=>
   have h':aN P hint n ops Q ops.toList s H:=h
   refine wpIn_region ?_
   have:=pO hF ops.toList 0 (fun j=>by simp) hI h'
   rw[List.range_eq_range']
   simpa using this
  |true=>
   obtain⟨hm,h'⟩:P.follows .mixedOrders=true∧fu P hint n ops Q ops.size (Array.replicate ops.size false) s H:=h
   refine wpIn_region_any hm ?_
   have hI':Inv H0 φ0 N0 w0 n ds s H φ N a {w with drawn:=w.drawn+1}:=
    ⟨hI.rel.drawn rfl rfl rfl rfl,fun t=>RA.since hI.rel (au.drawn (w':={w with drawn:=w.drawn+1}) rfl rfl rfl rfl) (hI.tmps t),hI.since.trans (au.drawn rfl rfl rfl rfl),hI.size,jk.mono (w:=w) (w':={w with drawn:=w.drawn+1}) (fun D _ _ _ hn=>⟨rfl,hn⟩) hI.defers⟩
   exact mJ hF _ _ hI' h'
 |seq x y ihx ihy=>
  intro F hF hint H0 φ0 N0 w0 ds hmk hR0 Q s H φ N a w hI h
  refine wpIn_seq (wpIn_mono (ihx hF hmk hR0 _ hI h) ?_)
  rintro e a' w' ⟨ax,s',H',φ',N',rfl,hq,hI'⟩
  cases ax with
  |normal=>
   have hq:if dz hint y=true then ∃s'' H'',ak H0 s' H' s'' H''∧cE P hint n H0 y Q s'' H'' else cE P hint n H0 y Q s' H':=hq
   split at hq
   ·obtain⟨s'',H'',hW,hq⟩:=hq
    obtain⟨φ1,N1,hI1⟩:=hW.ok hR0 hI'
    exact ihy hF hmk hR0 Q hI1 hq
   ·exact ihy hF hmk hR0 Q hI' hq
  |exit id=>exact⟨.exit id,s',H',φ',N',rfl,hq,hI'⟩
  |ret=>exact⟨.ret,s',H',φ',N',rfl,hq,hI'⟩
  |panic v=>exact⟨.panic v,s',H',φ',N',rfl,hq,hI'⟩
 |cond c x y ihx ihy=>
  intro F hF hint H0 φ0 N0 w0 ds hmk hR0 Q s H φ N a w hI h
  unfold cE at h
  split at h
  ·rename_i b hb
   have hv:=(show RA H φ N w (.d (.v (.bool b))) (a.eval c)from by rw[←hb];exact ar hI.tmps c).closed
   cases b with
   |true=>exact wpIn_cond_true hv (ihx hF hmk hR0 Q hI (by simpa using h))
   |false=>exact wpIn_cond_false hv (ihy hF hmk hR0 Q hI (by simpa using h))
  ·exact h.elim
 |block id x ih=>
  intro F hF hint H0 φ0 N0 w0 ds hmk hR0 Q s H φ N a w hI h
  refine wpIn_block (wpIn_mono (ih hF hmk hR0 _ hI h) ?_)
  rintro e a' w' ⟨ax,s',H',φ',N',rfl,hq,hI'⟩
  cases ax with
  |normal=>exact⟨.normal,s',H',φ',N',rfl,hq,hI'⟩
  |exit i=>
   simp only[AX.C2,Exit.inBlock]
   have hq:if i=id then Q .normal s' H' else Q (.exit i) s' H':=hq
   by_cases hi:i=id
   ·rw[if_pos hi]
    rw[if_pos hi]at hq
    exact⟨.normal,s',H',φ',N',rfl,hq,hI'⟩
   ·rw[if_neg hi]
    rw[if_neg hi]at hq
    exact⟨.exit i,s',H',φ',N',rfl,hq,hI'⟩
  |ret=>exact⟨.ret,s',H',φ',N',rfl,hq,hI'⟩
  |panic v=>exact⟨.panic v,s',H',φ',N',rfl,hq,hI'⟩
 |scope x ih=>
  intro F hF hint H0 φ0 N0 w0 ds hmk hR0 Q s H φ N a w hI h
  refine yw (wpIn_mono (ih hF hmk hR0 _ hI h) ?_)
  rintro e a' w' ⟨ax,s',H',φ',N',rfl,hq,hI'⟩
  cases ax with
  |normal=>exact⟨.normal,s',H',φ',N',rfl,hq,hI'⟩
  |exit i=>exact⟨.exit i,s',H',φ',N',rfl,hq,hI'⟩
  |ret=>exact⟨.ret,s',H',φ',N',rfl,hq,hI'⟩
  |panic v=>exact⟨.panic v,s',H',φ',N',rfl,hq,hI'⟩
 |loop x ih=>
  intro F hF hint H0 φ0 N0 w0 ds hmk hR0 Q s H φ N a w hI h
  obtain⟨I,m,⟨s1,H1,hW,h1⟩,hstep⟩:=h
  obtain⟨φ1,N1,hI1⟩:=hW.ok hR0 hI
  refine uf (fun m a w=>∃s H φ N,I m s H∧Inv H0 φ0 N0 w0 n ds s H φ N a w) (n:=m) ?_ ⟨s1,H1,φ1,N1,h1,hI1⟩
  rintro m a w ⟨s,H,φ,N,hIm,hI⟩
  refine wpIn_mono (ih hF hmk hR0 _ hI (hstep m s H hIm)) ?_
  rintro e a' w' ⟨ax,s',H',φ',N',rfl,hq,hI'⟩
  cases ax with
  |normal=>
   obtain⟨s2,H2,m',hW2,hm,hlt⟩:=hq
   obtain⟨φ2,N2,hI2⟩:=hW2.ok hR0 hI'
   exact⟨m',hlt,s2,H2,φ2,N2,hm,hI2⟩
  |exit i=>exact⟨.exit i,s',H',φ',N',rfl,hq,hI'⟩
  |ret=>exact⟨.ret,s',H',φ',N',rfl,hq,hI'⟩
  |panic v=>exact⟨.panic v,s',H',φ',N',rfl,hq,hI'⟩
 |exit id=>exact fun hF _ _ _ _ _ _ hmk hR0 Q s H φ N a w hI h=>wpIn_exit ⟨.exit id,s,H,φ,N,rfl,h,hI⟩
 |ret=>exact fun hF _ _ _ _ _ _ hmk hR0 Q s H φ N a w hI h=>wpIn_ret ⟨.ret,s,H,φ,N,rfl,h,hI⟩
 |rangeFunc g ps x y ihx ihy=>
  intro F hF hint H0 φ0 N0 w0 ds hmk hR0 Q s H φ N a w hI h
  obtain⟨hm,h⟩:=h
  obtain⟨hmk1,rfl⟩:=hmk hm
  exact CG hmk1 hR0 (fun hmk' hR=>ihx (.inr ⟨_,rfl⟩) hmk' hR) (fun hmk' hR=>ihy (.inr ⟨_,rfl⟩) hmk' hR) hI h
 |_=>intros;rename_i h;exact h.elim
theorem Ga(hmk:hint 2000000=true→ds.marks=true)(hR0:Rel H0 φ0 N0 w0)(c:Code)(Q:aQ){s:Nat→AV}{H:aa}{φ:aK}{N:Addr→Prop}{a:Act}{w:World}(hI:Inv H0 φ0 N0 w0 n ds s H φ N a w)(h:cE P hint n H0 c Q s H):c.wp P (jX H0 φ0 N0 w0 n ds Q) a w:=
 wpIn_wide.1 (y5 c (.inl rfl) (fun h=>⟨hmk h,rfl⟩) hR0 Q hI h)
def jV(rs:List Tmp)(s:Nat→AV):AV:=
 match rs with
 |[t]=>s t
 |l=> .a7 (l.map s)
def an(rs:List Tmp)(H0:aa)(res:mv)(H':aa):aQ:=fun e s H=>
 match e with
 | .normal=>∃s',ak H0 s H s' H'∧res= .ok (jV rs s')
 | .ret=>∃s',ak H0 s H s' H'∧res= .ok (jV rs s')
 | .panic v=>∃s',ak H0 s H s' H'∧res= .panic v
 |_=>False
def jM(args:List AV):Nat→AV:=fun t=>args.getD t .top
def yE(tmps:Array Value):List Tmp→Value
 |[t]=>tmps.getD t undef
 |l=> .tuple (l.map fun t=>tmps.getD t undef).toArray
theorem j0{fn:Func}(rs:List Tmp)(h:fn.results.toList=rs.map .tmp)(hl:rs.length≤4)(tmps:Array Value)(w:World):
  (results fn tmps).run P w= .ok (yE tmps rs) w:=by
 have h':fn.results=(rs.map .tmp).toArray:=by rw[←h]
 match rs,hl,h' with
 |[],_,h'=>simp[results,h',yE]
 |[_],_,h'=>simp[results,h',yE]
 |[_,_],_,h'=>simp[results,h',yE]
 |[_,_,_],_,h'=>simp[results,h',yE]
 |[_,_,_,_],_,h'=>simp[results,h',yE]
 |_::_::_::_::_::_,hl,_=>simp at hl
theorem fH{f:FuncId}{fn:Func}(hf:P.funcs[f]?=some fn)(hn:(fn.name== "runtime.NumGoroutine")=false)(hb:fn.body.isSome=true)(vals:Array Value)(w:World):(callFunc f vals).run P w= .ok (.enter f vals) w:=by
 have h1:fn.name≠ "runtime.NumGoroutine" :=by simpa using hn
 have h2:fn.body≠none:=by intro h;rw[h]at hb;cases hb
 simp[callFunc,hf,h1,h2]
theorem fF{fn:Func}{R:Ending→World→Prop}{u:FrameMode}(hu:u≠ .run){s:Nat→AV}{H:aa}{φ:aK}{N:Addr→Prop}{tmps:Array Value}:∀(ms:List Deferred) {w:World},Inv H0 φ0 N0 w0 n ⟨true,[]⟩ s H φ N {tmps:=tmps,defers:=ms} w→
  (∀w',Inv H0 φ0 N0 w0 n ⟨true,[]⟩ s H φ N {tmps:=tmps,defers:=[]} w'→LeavesInM Fence.wide 0 P fn tmps R [] u w')→LeavesInM Fence.wide 0 P fn tmps R ms u w
 |[],w,hI,h=>h w hI
 |d::ms,w,hI,h=>by
  obtain⟨ms',hms,_,hmk⟩:=hI.defers
  rw[List.append_nil]at hms
  have hms:d::ms=ms':=hms
  subst hms
  obtain⟨⟨D,h0,h1,h2,h3,h4⟩,h5⟩:=hmk
  refine⟨hu,.inl ⟨D,w.putObj D (.deferred none),by rw[h1],run_takeDeferred h2,fF hu ms ?_ h⟩⟩
  obtain⟨hR,hra⟩:=hI.rel.put (o':= .deferred none) h2 (fun _ _ _ e=>by cases e) h3
  refine⟨hR,fun t=>hra _ _ (hI.tmps t),((hI.since.x D).put _).since h0,hI.size,⟨ms,by simp,fun e=>(by cases e),?_⟩⟩
  have key:∀{ds:List Deferred},(∀d'∈ds,d'≠d)→Marks w0.heap.size H φ w ds→Marks w0.heap.size H φ (w.putObj D (.deferred none)) ds:=by
   intro ds
   induction ds with
   |nil=>exact fun _ _=>trivial
   |cons d1 ds ih=>
    rintro hne ⟨⟨D1,g0,g1,g2,g3,g4⟩,g5⟩
    refine⟨⟨D1,g0,g1,?_,g3,g4⟩,ih (fun d' hd'=>hne d' (List.mem_cons_of_mem _ hd')) g5⟩
    rw[World.putObj_heap_other fun e=>hne d1 (List.mem_cons_self ..) (by rw[g1,h1,e])]
    exact g2
  exact key h4 h5
theorem p8.init{H:aa}{φ:aK}{N:Addr→Prop}{w:World}{args:List AV}{vals:Array Value}(h:p8 H φ N w args vals)(n:Nat):bI H φ N w (jM args) {tmps:=vals++Array.replicate (n-vals.size) undef,defers:=[]}:=by
 intro t
 simp only[jM]
 by_cases ht:t<args.length
 ·have ht':t<vals.size:=by rw[←h.1];exact ht
  have:=h.2 t ht ht'
  have e1:args.getD t .top=args[t]:=by simp[List.getD,ht]
  have e2:(vals++Array.replicate (n-vals.size) undef).getD t undef=vals[t]:=by
   rw[Array.getD_eq_getD_getElem?,Array.getElem?_append_left ht'];simp[ht']
  rw[e1,e2]
  exact this
 ·have e1:args.getD t .top= .top:=by simp[List.getD,List.getElem?_eq_none (Nat.le_of_not_lt ht)]
  rw[e1]
  exact .top _
theorem Ef{s:Nat→AV}{H:aa}{φ:aK}{N:Addr→Prop}{a:Act}{w:World}(hI:Inv H0 φ0 N0 w0 n ⟨true,[]⟩ s H φ N a w):Inv H0 φ0 N0 w0 n ⟨true,[]⟩ s H φ N {tmps:=a.tmps,defers:=[]} w:=
 ⟨hI.rel,hI.tmps,hI.since,hI.size,jk.refl⟩
theorem jq{f:FuncId}{fn:Func}{body:Code}(hf:P.funcs[f]?=some fn)(hb:fn.body=some body){args:List AV}{H:aa}{Q:aQ}(ha:args.length≤fn.ntmps)(h:cE P hint fn.ntmps H body Q (jM args) H)
  {φ:aK} {N:Addr→Prop} {w:World} {vals:Array Value} (hR:Rel H φ N w) (hA:p8 H φ N w args vals) {R:Ending→World→Prop}
  (hend:∀{e s' H1 φ1 N1 tmps w'},Inv H φ N w fn.ntmps ⟨true,[]⟩ s' H1 φ1 N1 {tmps:=tmps,defers:=[]} w'→Q e s' H1→match e with
   | .normal| .ret=>∃v,(results fn tmps).run P w'= .ok v w'∧R (.returned v) w'
   | .panic v=>R (.panicked [{v:=v,recovered:=false}]) w'
   |_=>False):Calls P f vals w R:=by
 refine callsIn_wide.1 (callsIn_of_wp_marks (n:=0) (F:=Fence.wide) hf hb trivial ?_)
 have hI:Inv H φ N w fn.ntmps ⟨true,[]⟩ (jM args) H φ N {tmps:=vals++Array.replicate (fn.ntmps-vals.size) undef,defers:=[]} w:=
  ⟨hR,hA.init _,au.refl,by simp;have:=hA.1;omega,jk.refl⟩
 refine wpIn_mono (y5 body (.inl rfl) (fun _=>⟨rfl,rfl⟩) hR _ hI h) ?_
 rintro e a' w' ⟨ax,s',H1,φ1,N1,rfl,hq,hI1⟩
 cases ax with
 |normal=>exact fF (by simp) a'.defers hI1 fun w2 hI2=>hend hI2 hq
 |ret=>exact fF (by simp) a'.defers hI1 fun w2 hI2=>hend hI2 hq
 |exit i=>exact(hend (e:= .exit i) (tmps:=a'.tmps) (w':=w') (Ef hI1) hq).elim
 |panic v=>exact fF (by simp) a'.defers hI1 fun w2 hI2=>hend hI2 hq
theorem zf{s:Nat→AV}{H:aa}{φ:aK}{N:Addr→Prop}{tmps:Array Value}{w:World}(h:∀t,RA H φ N w (s t) (tmps.getD t undef))(rs:List Tmp):RA H φ N w (jV rs s) (yE tmps rs):=by
 have many:∀l:List Tmp,RA H φ N w (.a7 (l.map s)) (.tuple (l.map fun t=>tmps.getD t undef).toArray):=fun l=> .a7 _ _ (by simp) fun i h1 h2=>by simpa using h _
 match rs with
 |[]=>exact many []
 |[t]=>exact h t
 |t::u::l=>exact many (t::u::l)
theorem ag.ai{f:FuncId}{fn:Func}{body:Code}(hf:P.funcs[f]?=some fn)(hn:(fn.name== "runtime.NumGoroutine")=false)(hb:fn.body=some body)(rs:List Tmp)(hr:fn.results.toList=rs.map .tmp)(hl:rs.length≤4)
  {args:List AV} {H:aa} {res:mv} {H':aa} (ha:args.length≤fn.ntmps) (h:cE P hint fn.ntmps H body (an rs H res H') (jM args) H):ag P f args H res H':=by
 intro φ N w vals hR hA
 refine .inl ⟨fH hf hn (by rw[hb];rfl) vals w,jq hf hb ha h hR hA ?_⟩
 intro e s' H1 φ1 N1 tmps w' hI1 hq
 have fin:∀(s'':Nat→AV),ak H s' H1 s'' H'→res= .ok (jV rs s'')→∃v,(results fn tmps).run P w'= .ok v w'∧∃φ' N',Rel H' φ' N' w'∧au H φ N w H' φ' N' w'∧pS H' φ' N' w' res (.returned v):=by
  intro s'' hW hres
  obtain⟨φ2,N2,hI2⟩:=hW.ok hR hI1
  refine⟨_,j0 rs hr hl _ _,φ2,N2,hI2.rel,hI2.since,?_⟩
  subst hres
  exact zf hI2.tmps rs
 cases e with
 |normal=>
  obtain⟨s'',hW,hres⟩:=hq
  exact fin s'' hW hres
 |ret=>
  obtain⟨s'',hW,hres⟩:=hq
  exact fin s'' hW hres
 |exit i=>exact hq.elim
 |panic v=>
  obtain⟨s'',hW,rfl⟩:=hq
  obtain⟨φ2,N2,hI2⟩:=hW.ok hR hI1
  exact⟨φ2,N2,hI2.rel,hI2.since,rfl⟩
def Jm(rs:List Tmp)(H0:aa)(R:mv→aa→Prop):aQ:=fun e s H=>
 match e with
 | .normal=>∃s' H',ak H0 s H s' H'∧R (.ok (jV rs s')) H'
 | .ret=>∃s' H',ak H0 s H s' H'∧R (.ok (jV rs s')) H'
 |_=>False
theorem oP.ai{f:FuncId}{fn:Func}{body:Code}(hf:P.funcs[f]?=some fn)(hn:(fn.name== "runtime.NumGoroutine")=false)(hb:fn.body=some body)(rs:List Tmp)(hr:fn.results.toList=rs.map .tmp)(hl:rs.length≤4)
  {args:List AV} {H:aa} {R:mv→aa→Prop} (ha:args.length≤fn.ntmps) (h:cE P hint fn.ntmps H body (Jm rs H R) (jM args) H):oP P f args H R:=by
 intro φ N w vals hR hA
 refine⟨fH hf hn (by rw[hb];rfl) vals w,jq hf hb ha h hR hA ?_⟩
 intro e s' H1 φ1 N1 tmps w' hI1 hq
 have fin:∀(s'':Nat→AV) H',ak H s' H1 s'' H'→R (.ok (jV rs s'')) H'→∃v,(results fn tmps).run P w'= .ok v w'∧∃res H' φ' N',R res H'∧Rel H' φ' N' w'∧au H φ N w H' φ' N' w'∧pS H' φ' N' w' res (.returned v):=by
  intro s'' H' hW hres
  obtain⟨φ2,N2,hI2⟩:=hW.ok hR hI1
  exact⟨_,j0 rs hr hl _ _,_,H',φ2,N2,hres,hI2.rel,hI2.since,zf hI2.tmps rs⟩
 cases e with
 |normal=>
  obtain⟨s'',H',hW,hres⟩:=hq
  exact fin s'' H' hW hres
 |ret=>
  obtain⟨s'',H',hW,hres⟩:=hq
  exact fin s'' H' hW hres
 |exit i=>exact hq.elim
 |panic v=>exact hq.elim
end
end Go.Proofs.YtggohfhfocgilaaGreatAw
namespace Go.Proofs.YtggohfhfocgilaaGreat.K
open Go.Proofs.YtggohfhfocgilaaGreatAw
theorem K4:TI Tryz.prog 2=some ((.int .i64 0:Value),1,8):=by kernel_rfl
theorem Il:dr Tryz.prog 2=some false:=by kernel_rfl
theorem K7:SE Tryz.prog 2=none:=by kernel_rfl
theorem KS:UK Tryz.prog 2=some .i64:=by kernel_rfl
theorem Ld:TI Tryz.prog 3=some ((.int .i64 0:Value),1,8):=by kernel_rfl
theorem Iz:dr Tryz.prog 3=some false:=by kernel_rfl
theorem Lg:SE Tryz.prog 3=none:=by kernel_rfl
theorem KT:UK Tryz.prog 3=some .i64:=by kernel_rfl
theorem KY:TI Tryz.prog 4=some ((.bool false:Value),1,1):=by kernel_rfl
theorem KB:dr Tryz.prog 4=some false:=by kernel_rfl
theorem Lb:Tryz.prog.underlying 4=some .bool:=by kernel_rfl
theorem Lf:TI Tryz.prog 5=some ((.int .u8 0:Value),1,1):=by kernel_rfl
theorem J1:dr Tryz.prog 5=some false:=by kernel_rfl
theorem K2:SE Tryz.prog 5=none:=by kernel_rfl
theorem K8:UK Tryz.prog 5=some .u8:=by kernel_rfl
theorem Le:TI Tryz.prog 9=some ((.string ⟨#[]⟩:Value),1,16):=by kernel_rfl
theorem Hr:dr Tryz.prog 9=some false:=by kernel_rfl
theorem K3:SE Tryz.prog 9=none:=by kernel_rfl
theorem K9:MT Tryz.prog 9=none:=by kernel_rfl
theorem KW:Tryz.prog.underlying 9=some .string:=by kernel_rfl
theorem Ka:TI Tryz.prog 22=some ((.slice none 0 0:Value),1,24):=by kernel_rfl
theorem Je:dr Tryz.prog 22=some false:=by kernel_rfl
theorem Kp:SE Tryz.prog 22=some 136:=by kernel_rfl
theorem Kd:TI Tryz.prog 23=some ((.slice none 0 0:Value),1,24):=by kernel_rfl
theorem Ji:dr Tryz.prog 23=some false:=by kernel_rfl
theorem Kb:SE Tryz.prog 23=some 3:=by kernel_rfl
theorem JQ:TI Tryz.prog 26=some ((.slice none 0 0:Value),1,24):=by kernel_rfl
theorem IF:dr Tryz.prog 26=some false:=by kernel_rfl
theorem Kr:SE Tryz.prog 26=some 123:=by kernel_rfl
theorem KE:TI Tryz.prog 27=some ((.slice none 0 0:Value),1,24):=by kernel_rfl
theorem Ib:dr Tryz.prog 27=some false:=by kernel_rfl
theorem KQ:SE Tryz.prog 27=some 120:=by kernel_rfl
theorem KL:TI Tryz.prog 28=some ((.slice none 0 0:Value),1,24):=by kernel_rfl
theorem HC:dr Tryz.prog 28=some false:=by kernel_rfl
theorem JG:SE Tryz.prog 28=some 118:=by kernel_rfl
theorem J7:TI Tryz.prog 30=some ((.agg #[.int .i64 0,.slice none 0 0,.slice none 0 0,.slice none 0 0,.bool false,.slice none 0 0,.slice none 0 0,.int .i64 0]:Value),8,144):=by kernel_rfl
theorem Fb:dr Tryz.prog 30=some true:=by kernel_rfl
theorem Fj:FO Tryz.prog 30 1=some (1,26):=by kernel_rfl
theorem Gs:FO Tryz.prog 30 2=some (2,27):=by kernel_rfl
theorem F2:FO Tryz.prog 30 3=some (3,23):=by kernel_rfl
theorem GR:FO Tryz.prog 30 5=some (5,28):=by kernel_rfl
theorem Kt:TI Tryz.prog 32=some ((.agg #[.int .i64 0,.bool false,.slice none 0 0,.int .i64 0,.bool false]:Value),5,56):=by kernel_rfl
theorem Iq:dr Tryz.prog 32=some true:=by kernel_rfl
theorem Gl:FO Tryz.prog 32 0=some (0,3):=by kernel_rfl
theorem Gn:FO Tryz.prog 32 1=some (1,4):=by kernel_rfl
theorem FW:FO Tryz.prog 32 2=some (2,23):=by kernel_rfl
theorem GA:FO Tryz.prog 32 3=some (3,3):=by kernel_rfl
theorem F4:FO Tryz.prog 32 4=some (4,4):=by kernel_rfl
theorem KO:SP Tryz.prog 32=some [(0,1),(1,1),(2,1),(3,1),(4,1)]:=by kernel_rfl
theorem JH:TI Tryz.prog 34=some ((.slice none 0 0:Value),1,24):=by kernel_rfl
theorem Ii:dr Tryz.prog 34=some false:=by kernel_rfl
theorem J4:SE Tryz.prog 34=some 110:=by kernel_rfl
theorem KJ:TI Tryz.prog 36=some ((.agg #[.slice none 0 0,.slice none 0 0,.int .i64 0,.slice none 0 0]:Value),4,80):=by kernel_rfl
theorem IX:dr Tryz.prog 36=some true:=by kernel_rfl
theorem FJ:FO Tryz.prog 36 0=some (0,23):=by kernel_rfl
theorem GF:FO Tryz.prog 36 1=some (1,23):=by kernel_rfl
theorem Fo:FO Tryz.prog 36 2=some (2,3):=by kernel_rfl
theorem Gm:FO Tryz.prog 36 3=some (3,34):=by kernel_rfl
theorem J3:SP Tryz.prog 36=some [(0,1),(1,1),(2,1),(3,1)]:=by kernel_rfl
theorem KI:TI Tryz.prog 40=some ((.int .u64 0:Value),1,8):=by kernel_rfl
theorem IP:dr Tryz.prog 40=some false:=by kernel_rfl
theorem Kj:SE Tryz.prog 40=none:=by kernel_rfl
theorem Ki:UK Tryz.prog 40=some .u64:=by kernel_rfl
theorem Ke:TI Tryz.prog 43=some ((.slice none 0 0:Value),1,24):=by kernel_rfl
theorem Jl:dr Tryz.prog 43=some false:=by kernel_rfl
theorem JY:SE Tryz.prog 43=some 109:=by kernel_rfl
theorem Ks:TI Tryz.prog 45=some ((.agg #[.slice none 0 0,.slice none 0 0,.int .i64 0,.slice none 0 0]:Value),4,80):=by kernel_rfl
theorem I7:dr Tryz.prog 45=some true:=by kernel_rfl
theorem FC:FO Tryz.prog 45 0=some (0,23):=by kernel_rfl
theorem FB:FO Tryz.prog 45 3=some (3,43):=by kernel_rfl
theorem Kq:SP Tryz.prog 45=some [(0,1),(1,1),(2,1),(3,1)]:=by kernel_rfl
theorem KC:TI Tryz.prog 52=some ((.agg #[.slice none 0 0,.slice none 0 0]:Value),2,48):=by kernel_rfl
theorem Kk:SE Tryz.prog 52=none:=by kernel_rfl
theorem Ky:AE Tryz.prog 52=some (2,23):=by kernel_rfl
theorem JS:TI Tryz.prog 54=some ((.agg #[.slice none 0 0,.slice none 0 0,.slice none 0 0,.slice none 0 0,.slice none 0 0,.slice none 0 0]:Value),6,144):=by kernel_rfl
theorem Fc:dr Tryz.prog 54=some true:=by kernel_rfl
theorem F1:FO Tryz.prog 54 0=some (0,22):=by kernel_rfl
theorem Fz:FO Tryz.prog 54 1=some (1,23):=by kernel_rfl
theorem Gq:FO Tryz.prog 54 2=some (2,52):=by kernel_rfl
theorem GC:FO Tryz.prog 54 3=some (4,52):=by kernel_rfl
theorem J9:TI Tryz.prog 55=some ((.slice none 0 0:Value),1,24):=by kernel_rfl
theorem Jb:dr Tryz.prog 55=some false:=by kernel_rfl
theorem KM:SE Tryz.prog 55=some 36:=by kernel_rfl
theorem KA:TI Tryz.prog 57=some ((.agg #[.slice none 0 0,.slice none 0 0]:Value),2,48):=by kernel_rfl
theorem HY:dr Tryz.prog 57=some true:=by kernel_rfl
theorem GI:FO Tryz.prog 57 0=some (0,23):=by kernel_rfl
theorem GL:FO Tryz.prog 57 1=some (1,55):=by kernel_rfl
theorem Km:SP Tryz.prog 57=some [(0,1),(1,1)]:=by kernel_rfl
theorem JJ:TI Tryz.prog 60=some ((.slice none 0 0:Value),1,24):=by kernel_rfl
theorem Jf:dr Tryz.prog 60=some false:=by kernel_rfl
theorem Kh:SE Tryz.prog 60=some 45:=by kernel_rfl
theorem JP:TI Tryz.prog 62=some ((.agg #[.slice none 0 0,.slice none 0 0]:Value),2,48):=by kernel_rfl
theorem Ik:dr Tryz.prog 62=some true:=by kernel_rfl
theorem GS:FO Tryz.prog 62 1=some (1,60):=by kernel_rfl
theorem Kv:SP Tryz.prog 62=some [(0,1),(1,1)]:=by kernel_rfl
theorem JU:TI Tryz.prog 64=some ((.slice none 0 0:Value),1,24):=by kernel_rfl
theorem Hl:dr Tryz.prog 64=some false:=by kernel_rfl
theorem Kn:SE Tryz.prog 64=some 32:=by kernel_rfl
theorem JV:TI Tryz.prog 68=some ((.int .i64 0:Value),1,8):=by kernel_rfl
theorem IQ:dr Tryz.prog 68=some false:=by kernel_rfl
theorem JO:TI Tryz.prog 81=some ((.slice none 0 0:Value),1,24):=by kernel_rfl
theorem I6:dr Tryz.prog 81=some false:=by kernel_rfl
theorem KD:SE Tryz.prog 81=some 5:=by kernel_rfl
theorem KR:TI Tryz.prog 96=some ((.slice none 0 0:Value),1,24):=by kernel_rfl
theorem HG:dr Tryz.prog 96=some false:=by kernel_rfl
theorem JI:SE Tryz.prog 96=some 102:=by kernel_rfl
theorem I9:TI Tryz.prog 100=some ((.agg #[.int .i64 0,.int .i64 0,.string ⟨#[]⟩]:Value),3,32):=by kernel_rfl
theorem FN:dr Tryz.prog 100=some true:=by kernel_rfl
theorem EL:FO Tryz.prog 100 0=some (0,3):=by kernel_rfl
theorem Eh:FO Tryz.prog 100 1=some (1,2):=by kernel_rfl
theorem EZ:FO Tryz.prog 100 2=some (2,9):=by kernel_rfl
theorem IW:SP Tryz.prog 100=some [(0,1),(1,1),(2,1)]:=by kernel_rfl
theorem HI:TI Tryz.prog 102=some ((.agg #[.int .i64 0,.int .i64 0,.int .i64 0,.int .i64 0,.string ⟨#[]⟩,.int .i64 0,.int .i64 0,.string ⟨#[]⟩]:Value),8,80):=by kernel_rfl
theorem Gb:dr Tryz.prog 102=some true:=by kernel_rfl
theorem Ek:FO Tryz.prog 102 0=some (0,3):=by kernel_rfl
theorem E4:FO Tryz.prog 102 1=some (1,3):=by kernel_rfl
theorem E6:FO Tryz.prog 102 2=some (2,100):=by kernel_rfl
theorem ED:FO Tryz.prog 102 3=some (5,100):=by kernel_rfl
theorem IH:SP Tryz.prog 102=some [(0,1),(1,1),(2,3),(5,3)]:=by kernel_rfl
theorem It:TI Tryz.prog 109=some ((.slice none 0 0:Value),1,24):=by kernel_rfl
theorem GQ:dr Tryz.prog 109=some false:=by kernel_rfl
theorem Is:SE Tryz.prog 109=some 114:=by kernel_rfl
theorem He:TI Tryz.prog 110=some ((.slice none 0 0:Value),1,24):=by kernel_rfl
theorem FI:dr Tryz.prog 110=some false:=by kernel_rfl
theorem HN:SE Tryz.prog 110=some 113:=by kernel_rfl
theorem HK:TI Tryz.prog 111=some ((.slice none 0 0:Value),1,24):=by kernel_rfl
theorem Gr:dr Tryz.prog 111=some false:=by kernel_rfl
theorem Iu:SE Tryz.prog 111=some 4:=by kernel_rfl
theorem Hm:TI Tryz.prog 113=some ((.agg #[.int .i64 0,.int .i64 0,.int .i64 0,.int .i64 0,.int .i64 0,.int .i64 0,.string ⟨#[]⟩,.int .i64 0,.int .i64 0,.string ⟨#[]⟩,.slice none 0 0,.slice none 0 0]:Value),12,144):=by kernel_rfl
theorem FK:dr Tryz.prog 113=some true:=by kernel_rfl
theorem ET:FO Tryz.prog 113 0=some (0,3):=by kernel_rfl
theorem E3:FO Tryz.prog 113 1=some (1,3):=by kernel_rfl
theorem DY:FO Tryz.prog 113 2=some (2,102):=by kernel_rfl
theorem DZ:FO Tryz.prog 113 3=some (10,111):=by kernel_rfl
theorem DX:FO Tryz.prog 113 4=some (11,81):=by kernel_rfl
theorem Hh:SP Tryz.prog 113=some [(0,1),(1,1),(2,8),(10,1),(11,1)]:=by kernel_rfl
theorem IZ:TI Tryz.prog 114=some ((.agg #[.int .i64 0,.int .i64 0,.int .i64 0,.int .i64 0,.int .i64 0,.int .i64 0,.string ⟨#[]⟩,.int .i64 0,.int .i64 0,.string ⟨#[]⟩,.slice none 0 0,.slice none 0 0]:Value),12,144):=by kernel_rfl
theorem EB:FO Tryz.prog 114 2=some (2,102):=by kernel_rfl
theorem HH:SP Tryz.prog 114=some [(0,1),(1,1),(2,8),(10,1),(11,1)]:=by kernel_rfl
theorem Hw:TI Tryz.prog 115=some ((.map none:Value),1,8):=by kernel_rfl
theorem FX:dr Tryz.prog 115=some false:=by kernel_rfl
theorem I5:MT Tryz.prog 115=some (.i64,3,4):=by kernel_rfl
theorem IA:TI Tryz.prog 118=some ((.agg #[.int .i64 0,.int .i64 0]:Value),2,16):=by kernel_rfl
theorem FG:dr Tryz.prog 118=some true:=by kernel_rfl
theorem DP:FO Tryz.prog 118 0=some (0,3):=by kernel_rfl
theorem Ez:FO Tryz.prog 118 1=some (1,3):=by kernel_rfl
theorem II:TI Tryz.prog 120=some ((.agg #[.int .i64 0,.int .i64 0,.int .i64 0,.slice none 0 0]:Value),4,48):=by kernel_rfl
theorem FQ:dr Tryz.prog 120=some true:=by kernel_rfl
theorem Ed:FO Tryz.prog 120 0=some (0,3):=by kernel_rfl
theorem H8:TI Tryz.prog 123=some ((.agg #[.int .i64 0,.int .i64 0,.int .i64 0,.int .i64 0,.string ⟨#[]⟩]:Value),5,48):=by kernel_rfl
theorem Fm:dr Tryz.prog 123=some true:=by kernel_rfl
theorem EA:FO Tryz.prog 123 0=some (0,3):=by kernel_rfl
theorem EW:FO Tryz.prog 123 1=some (1,3):=by kernel_rfl
theorem Eb:FO Tryz.prog 123 2=some (2,100):=by kernel_rfl
theorem HD:TI Tryz.prog 124=some ((.slice none 0 0:Value),1,24):=by kernel_rfl
theorem Gx:dr Tryz.prog 124=some false:=by kernel_rfl
theorem Hj:SE Tryz.prog 124=some 23:=by kernel_rfl
theorem Hd:TI Tryz.prog 132=some ((.nilFunc:Value),1,8):=by kernel_rfl
theorem GN:dr Tryz.prog 132=some false:=by kernel_rfl
theorem IY:TI Tryz.prog 136=some ((.slice none 0 0:Value),1,24):=by kernel_rfl
theorem GJ:dr Tryz.prog 136=some false:=by kernel_rfl
theorem HP:SE Tryz.prog 136=some 100:=by kernel_rfl
theorem IT:TI Tryz.prog 173=some ((.nilFunc:Value),1,8):=by kernel_rfl
theorem Gp:dr Tryz.prog 173=some false:=by kernel_rfl
theorem Ho:SE Tryz.prog 207=none:=by kernel_rfl
theorem HU:UK Tryz.prog 207=some .u64:=by kernel_rfl
theorem Hf:TI Tryz.prog 220=some ((.nilFunc:Value),1,8):=by kernel_rfl
theorem Gt:dr Tryz.prog 220=some false:=by kernel_rfl
theorem H5:TI Tryz.prog 223=some ((.agg #[.nilFunc,.nilFunc]:Value),2,16):=by kernel_rfl
theorem Eg:FO Tryz.prog 223 0=some (0,220):=by kernel_rfl
theorem I8:SP Tryz.prog 223=some [(0,1),(1,1)]:=by kernel_rfl
theorem I2:MT Tryz.prog 225=some (.i64,3,223):=by kernel_rfl
theorem IK:TI Tryz.prog 237=some ((.agg #[.slice none 0 0,.int .i64 0]:Value),2,32):=by kernel_rfl
theorem EK:FO Tryz.prog 237 0=some (0,81):=by kernel_rfl
theorem D9:FO Tryz.prog 237 1=some (1,3):=by kernel_rfl
theorem IN:SP Tryz.prog 237=some [(0,1),(1,1)]:=by kernel_rfl
theorem IM:TI Tryz.prog 267=some ((.agg #[.int .i64 0,.int .i64 0,.int .i64 0,.int .i64 0,.int .i64 0,.int .i64 0,.int .i64 0]:Value),7,56):=by kernel_rfl
theorem Io:SE Tryz.prog 267=none:=by kernel_rfl
theorem Jc:AE Tryz.prog 267=some (7,3):=by kernel_rfl
theorem HX:SP Tryz.prog 267=none:=by kernel_rfl
theorem Hg:SE Tryz.prog 284=some 287:=by kernel_rfl
theorem Ig:TI Tryz.prog 287=some ((.agg #[.int .i64 0,.int .i64 0,.int .i64 0,.string ⟨#[]⟩]:Value),4,40):=by kernel_rfl
theorem FV:dr Tryz.prog 287=some true:=by kernel_rfl
theorem E9:FO Tryz.prog 287 0=some (0,3):=by kernel_rfl
theorem ER:FO Tryz.prog 287 1=some (1,100):=by kernel_rfl
theorem Jj:SP Tryz.prog 287=some [(0,1),(1,3)]:=by kernel_rfl
theorem Ic:SE Tryz.prog 291=some 40:=by kernel_rfl
theorem mixed:Tryz.prog.follows .mixedOrders=true:=by kernel_rfl
attribute [go_sem] K4 Il K7 KS Ld Iz Lg KT KY KB Lb Lf J1 K2 K8 Le Hr K3 K9 KW Ka Je Kp Kd Ji Kb JQ IF Kr KE Ib KQ KL HC JG J7 Fb Fj Gs F2 GR Kt Iq Gl Gn FW GA F4 KO JH Ii J4 KJ IX FJ GF Fo Gm J3 KI IP Kj Ki Ke Jl JY Ks I7 FC FB Kq KC Kk Ky JS Fc F1 Fz Gq GC J9 Jb KM KA HY GI GL Km JJ Jf Kh JP Ik GS Kv JU Hl Kn JV IQ JO I6 KD KR HG JI I9 FN EL Eh EZ IW HI Gb Ek E4 E6 ED IH It GQ Is He FI HN HK Gr Iu Hm FK ET E3 DY DZ DX Hh IZ EB HH Hw FX I5 IA FG DP Ez II FQ Ed H8 Fm EA EW Eb HD Gx Hj Hd GN IY GJ HP IT Gp Ho HU Hf Gt H5 Eg I8 I2 IK EK D9 IN IM Io Jc HX Hg Ig FV E9 ER Jj Ic mixed
end Go.Proofs.YtggohfhfocgilaaGreat.K

/- Contracts of functions and lemmas for planAll_holds, part 4. -/
import Derived.ChangeArms
import Derived.Carry
import Derived.WideShapes
import Derived.SizedLaws
import Derived.Laws.StructEq
import Derived.Test.YtggohfhfocgilaaGreatM03
set_option maxHeartbeats 8000000
set_option maxRecDepth 100000
set_option linter.all false
namespace Go.Proofs.YtggohfhfocgilaaGreatAw
theorem DH(n:Nat)(s:Nat→AV)(d:Tmp)(v:AV)(t:Nat):bp n s (some d) v t=if t=d then(if d<n then v else .top)else s t:=rfl
theorem DU(n:Nat)(s:Nat→AV)(v:AV):bp n s none v=s:=rfl
theorem Ah(s:Nat→AV)(t:Tmp):ah s (.tmp t)=s t:=rfl
theorem vx(s:Nat→AV)(v:Value):ah s (.const v)=bT v:=rfl
theorem x8(s:Nat→AV)(f:FuncId):ah s (.func f)= .fn f []:=rfl
theorem xN(k:IntKind)(n:Int):bT (.int k n)= .d (.v (.int k n)):=rfl
theorem uu(b:Bool):bT (.bool b)= .d (.v (.bool b)):=rfl
theorem qz(b:ByteArray):bT (.string b)= .d (.v (.string b)):=rfl
theorem se(a:Option Addr)(n c:Nat):bT (.slice a n c)= .d (.v (.slice a n c)):=rfl
theorem oy(a:Option Addr):bT (.pointer a)= .d (.v (.pointer a)):=rfl
theorem xL(cs:Array Value):bT (.agg cs)=if cs.all Value.oneCell' then .agg (cs.toList.map fun c=> .d (.v c))else .top:=rfl
theorem oN:bT .nilFunc= .d (.v .nilFunc):=rfl
theorem Cr(args:List AV)(t:Nat):jM args t=args.getD t .top:=rfl
theorem Cz(x:Value):closed (.d (.v x))=some x:=rfl
theorem tM(nn:Bool)(es:List (List D)):closed (.d (.list nn es))=none:=rfl
theorem xC(id ver i j:Nat):closed (.ptr id ver i j)=none:=rfl
theorem yu(cs:List AV):closed (.agg cs)=(fJ cs).map fun l=> .agg l.toArray:=rfl
theorem Bi(x:D):cellsOf (.d x)=some [.d x]:=rfl
theorem yn(id ver off len:Nat):cellsOf (.sl id ver off len)=some [.sl id ver off len]:=rfl
theorem uO(cs:List AV):cellsOf (.agg cs)=if cs.all AV.one then some cs else none:=rfl
theorem xW(f:FuncId)(cs:List AV):cellsOf (.fn f cs)=some [.fn f cs]:=rfl
theorem xS(id:Nat):cellsOf (.mp id)=some [.mp id]:=rfl
theorem zI(H T:aa)(k:Nat):(H++T)[H.length+k]?=T[k]?:=by rw[List.getElem?_append_right (by omega)];congr 1;omega
theorem CR(H T:aa):(H++T)[H.length]?=T[0]?:=zI H T 0
theorem zv(H T:aa)(k:Nat)(o:ay):(H++T).set (H.length+k) o=H++T.set k o:=by
 rw[List.set_append_right _ _ (by omega)];congr 2;omega
theorem B3(H T:aa)(o:ay):(H++T).set H.length o=H++T.set 0 o:=zv H T 0 o
theorem zY(H:aa)(nn:Bool)(es:List (List D)):oX H (.d (.list nn es))=some es.length:=rfl
theorem xc(H:aa)(a:Option Addr)(n c:Nat):oX H (.d (.v (.slice a n c)))=some n:=rfl
theorem Ev(H:aa)(id ver off len:Nat):oX H (.sl id ver off len)=match H[id]? with|some ob=>if ob.ver=ver then some len else none|none=>none:=rfl
theorem Bx(H:aa)(nn:Bool)(es:List (List D)):jy H (.d (.list nn es))=some es:=rfl
theorem yA(H:aa)(k:Nat)(i:Int)(nn:Bool)(es:List (List D)):gu H k i (.d (.list nn es))=if 0≤i then(es[i.toNat]?).bind fun e=>if e.length=k then some (.cc e)else none else none:=rfl
theorem xQ(H:aa)(n:Nat)(cs:List D):ea H n (.cc cs)=if n≤cs.length then some ((cs.take n).map .d)else none:=rfl
theorem As(H:aa)(n id ver i j:Nat):ea H n (.ptr id ver i j)=ab H id ver i j n:=rfl
theorem wz(H:aa)(cs:List AV)(id ver i j:Nat):pt H cs (.ptr id ver i j)=aq H id ver i j cs:=rfl
theorem zK(off id ver i j:Nat):fQ off (.ptr id ver i j)=some (.ptr id ver i (j+off)):=rfl
theorem yK(off:Nat)(cs:List D):fQ off (.cc cs)=if off≤cs.length then some (.cc (cs.drop off))else none:=rfl
theorem rn(H:aa)(id ver i j:Nat):fresh H (.ptr id ver i j)=match H[id]? with|some o=>o.ver==ver&&o.live|none=>false:=rfl
theorem yx(H:aa)(cs:List D):fresh H (.cc cs)=true:=rfl
theorem Cx:mV []=some []:=rfl
theorem AZ(x:AV)(xs:List AV):mV (x::xs)=match x.toD?,mV xs with|some y,some ys=>some (y::ys)|_,_=>none:=rfl
theorem Ia(x:D):(AV.d x).toD?=some x:=rfl
theorem A1(place:Nat→Option (Nat×Nat))(cells:List AV):eh place cells []=some cells:=rfl
theorem ym(place:Nat→Option (Nat×Nat))(cells:List AV)(i:Nat)(x:AV)(rest:List (Nat×AV)):eh place cells ((i,x)::rest)=match place i,cellsOf x with
  |some (off,size),some cs=>if cs.length=size∧off+size≤cells.length then eh place (eM cells off cs) rest else none
  |_,_=>none:=rfl
theorem kO(H:aa)(o:ay):(H++[o])[H.length]?=some o:=by simp
def nf{α:Sort _}(x:α):α:=x
theorem Da{α:Sort _}(x:α):nf x=x:=rfl
def ob{α:Type}(x:Option α)(K:α→Prop):Prop:=match x with|some a=>K a|none=>False
theorem aM{α:Type}(a:α)(K:α→Prop):ob (some a) K=K a:=rfl
theorem Dg{α:Type}{x y:Option α}{K:α→Prop}(h:nf x=y):ob x K=ob y K:=by rw[←h];rfl
def ml{α:Type}(x:Option α)(K:α→Prop)(L:Prop):Prop:=match x with|some a=>K a|none=>L
theorem ej{α:Type}(a:α)(K:α→Prop)(L:Prop):ml (some a) K L=K a:=rfl
theorem ec{α:Type}(K:α→Prop)(L:Prop):ml none K L=L:=rfl
theorem xx{α:Type}{x y:Option α}{K:α→Prop}{L:Prop}(h:nf x=y):ml x K L=ml y K L:=by rw[←h];rfl
def n9(b:Bool)(A B:Prop):Prop:=if b=true then A else B
theorem re(A B:Prop):n9 true A B=A:=by simp[n9]
theorem gb(A B:Prop):n9 false A B=B:=by simp[n9]
theorem wG{b c:Bool}{A B:Prop}(h:nf b=c):n9 b A B=n9 c A B:=by rw[←h];rfl
def JL:AV→Option Bool
 | .d (.v (.bool b))=>some b
 |_=>none
theorem Dp(b:Bool):JL (.d (.v (.bool b)))=some b:=rfl
def KV:AV→Option Int
 | .d (.v (.int _ i))=>some i
 |_=>none
theorem Ew(k:IntKind)(i:Int):KV (.d (.v (.int k i)))=some i:=rfl
def oc(x:AV)(A:FuncId→List AV→Prop)(B:Nat→Prop):Prop:=match x with
 | .fn f cs=>A f cs
 | .gq id=>B id
 |_=>False
theorem HB(f:FuncId)(cs:List AV)(A:FuncId→List AV→Prop)(B:Nat→Prop):oc (.fn f cs) A B=A f cs:=rfl
theorem Fw(id:Nat)(A:FuncId→List AV→Prop)(B:Nat→Prop):oc (.gq id) A B=B id:=rfl
@[congr] theorem Iy {x y:AV} {A:FuncId→List AV→Prop} {B:Nat→Prop} (h:nf x=y):oc x A B=oc y A B:=by rw[←h];rfl
def KU:AV→Option (List AV)
 | .a7 cs=>some cs
 |_=>none
theorem zi(cs:List AV):KU (.a7 cs)=some cs:=rfl
def CN:Option Value→Option ByteArray
 |some (.string b)=>some b
 |_=>none
theorem kg(b:ByteArray):CN (some (.string b))=some b:=rfl
def Cd:Option Value→Option Int
 |some (.int _ i)=>some i
 |_=>none
theorem uv(k:IntKind)(i:Int):Cd (some (.int k i))=some i:=rfl
def KF{α:Type}:Option (List α)→Option α
 |some [c]=>some c
 |_=>none
theorem EG{α:Type}(c:α):KF (some [c])=some c:=rfl
theorem F3:(true==false)=false:=rfl
theorem FY:(false==true)=false:=rfl
attribute [go_sem] Da F3 FY aM ej ec re gb Dp Ew HB Fw zi kg uv EG
def dx(P:Program)(t:TypeId):Bool:=match TI P t with|some (z,k,_)=>decide (0<k)&&z.cells.size==k&&z.cells.all Value.oneCell'|none=>false
theorem rS{P:Program}{t:TypeId}{z:Value}{k b:Nat}(h:TI P t=some (z,k,b)):(dx P t=true)=(0<k∧z.cells.size=k∧z.cells.all Value.oneCell'=true):=by
 simp[dx,h,and_assoc]
section
variable (P:Program) (hint:Nat→Bool) (n:Nat) (H0:aa)
def IU(ops:Array Oper)(Q:aQ)(rest:List Oper)(s:Nat→AV)(d:Option Tmp):AV→aa→Prop:=fun r H'=>aN P hint n ops Q rest (bp n s d r) H'
def ES(Q:aQ)(s:Nat→AV):Value→aa→Prop:=fun v H'=>Q (.panic v) s H'
def j1(y:Code)(Q:aQ):aQ:=fun e s' H'=>match e with| .normal=>(if dz hint y=true then ∃s'' H'',ak H0 s' H' s'' H''∧cE P hint n H0 y Q s'' H'' else cE P hint n H0 y Q s' H')|e=>Q e s' H'
def cZ(id:Nat)(Q:aQ):aQ:=fun e s' H'=>match e with| .exit i=>if i=id then Q .normal s' H' else Q (.exit i) s' H'|e=>Q e s' H'
def fj(R:(Nat→AV)→aa→Prop)(Q:aQ):aQ:=fun e s' H'=>match e with| .normal=>R s' H'|e=>Q e s' H'
def CE(K:AV→aa→Prop)(H:aa):Value→Prop:=fun r=>K (bT r) H
theorem DB(ops:Array Oper)(Q:aQ)(rest:List Oper)(s:Nat→AV)(d:Option Tmp)(r:AV)(H:aa):IU P hint n ops Q rest s d r H=aN P hint n ops Q rest (bp n s d r) H:=rfl
theorem cU(y:Code)(Q:aQ)(s:Nat→AV)(H:aa):j1 P hint n H0 y Q .normal s H=n9 (dz hint y) (∃s'' H'',ak H0 s H s'' H''∧cE P hint n H0 y Q s'' H'') (cE P hint n H0 y Q s H):=rfl
theorem wU(x y:Code):dz hint (.seq x y)=dz hint x:=rfl
theorem qo(id:Nat)(ops:Array Oper)(b:Bool):dz hint (.region id ops b)=hint (id+1000000):=rfl
theorem tG(c:Operand)(x y:Code):dz hint (.cond c x y)=false:=rfl
theorem r3(id:Nat)(x:Code):dz hint (.block id x)=false:=rfl
theorem yC:dz hint .ret=false:=rfl
theorem tL(id:Nat):dz hint (.exit id)=false:=rfl
attribute [go_sem] wU qo tG r3 yC tL
theorem rD(y:Code)(Q:aQ)(i:Nat)(s:Nat→AV)(H:aa):j1 P hint n H0 y Q (.exit i) s H=Q (.exit i) s H:=rfl
theorem CW(y:Code)(Q:aQ)(s:Nat→AV)(H:aa):j1 P hint n H0 y Q .ret s H=Q .ret s H:=rfl
theorem qs(id:Nat)(Q:aQ)(s:Nat→AV)(H:aa):cZ id Q .normal s H=Q .normal s H:=rfl
theorem gI(id:Nat)(Q:aQ)(i:Nat)(s:Nat→AV)(H:aa):cZ id Q (.exit i) s H=if i=id then Q .normal s H else Q (.exit i) s H:=rfl
theorem yB(id:Nat)(Q:aQ)(s:Nat→AV)(H:aa):cZ id Q .ret s H=Q .ret s H:=rfl
theorem tm(R:(Nat→AV)→aa→Prop)(Q:aQ)(s:Nat→AV)(H:aa):fj R Q .normal s H=R s H:=rfl
theorem yq(R:(Nat→AV)→aa→Prop)(Q:aQ)(i:Nat)(s:Nat→AV)(H:aa):fj R Q (.exit i) s H=Q (.exit i) s H:=rfl
theorem Ai(R:(Nat→AV)→aa→Prop)(Q:aQ)(s:Nat→AV)(H:aa):fj R Q .ret s H=Q .ret s H:=rfl
theorem BZ(K:AV→aa→Prop)(H:aa)(r:Value):CE K H r=K (bT r) H:=rfl
theorem vS(Q:aQ)(s:Nat→AV)(H:aa):cE P hint n H0 .skip Q s H=Q .normal s H:=rfl
theorem yT(id:Nat)(ops:Array Oper)(Q:aQ)(s:Nat→AV)(H:aa):cE P hint n H0 (.region id ops false) Q s H=aN P hint n ops Q ops.toList s H:=rfl
theorem dS(x y:Code)(Q:aQ)(s:Nat→AV)(H:aa):cE P hint n H0 (.seq x y) Q s H=cE P hint n H0 x (j1 P hint n H0 y Q) s H:=rfl
theorem p5(c:Operand)(x y:Code)(Q:aQ)(s:Nat→AV)(H:aa):cE P hint n H0 (.cond c x y) Q s H=(match ah s c with| .d (.v (.bool b))=>if b=true then cE P hint n H0 x Q s H else cE P hint n H0 y Q s H|_=>False):=rfl
theorem qT(id:Nat)(x:Code)(Q:aQ)(s:Nat→AV)(H:aa):cE P hint n H0 (.block id x) Q s H=cE P hint n H0 x (cZ id Q) s H:=rfl
theorem vB(id:Nat)(Q:aQ)(s:Nat→AV)(H:aa):cE P hint n H0 (.exit id) Q s H=Q (.exit id) s H:=rfl
theorem Ej(Q:aQ)(s:Nat→AV)(H:aa):cE P hint n H0 .ret Q s H=Q .ret s H:=rfl
theorem bu{α:Type}(I:α→(Nat→AV)→aa→Prop)(μ:α→Nat)(x0:α){body:Code}{Q:aQ}{s s':Nat→AV}{H H':aa}(hW:ak H0 s H s' H')(h0:I x0 s' H')
  (step:∀x s H,I x s H→cE P hint n H0 body (fj (fun s' H'=>∃s'' H'' y,ak H0 s' H' s'' H''∧I y s'' H''∧μ y<μ x) Q) s H):cE P hint n H0 (.loop body) Q s H:=by
 refine⟨fun m s H=>∃x,μ x=m∧I x s H∧cE P hint n H0 body (fj (fun s' H'=>∃s'' H'' y,ak H0 s' H' s'' H''∧I y s'' H''∧μ y<μ x) Q) s H,μ x0,⟨s',H',hW,x0,rfl,h0,step x0 s' H' h0⟩,?_⟩
 rintro m s H ⟨x,rfl,hI,h⟩
 have e:(fj (fun s' H'=>∃s'' H'' y,ak H0 s' H' s'' H''∧I y s'' H''∧μ y<μ x) Q:aQ)=fun e s' H'=>match e with
   | .normal=>∃s'' H'' m',ak H0 s' H' s'' H''∧(∃x,μ x=m'∧I x s'' H''∧cE P hint n H0 body (fj (fun s' H'=>∃s'' H'' y,ak H0 s' H' s'' H''∧I y s'' H''∧μ y<μ x) Q) s'' H'')∧m'<μ x
   |e=>Q e s' H':=by
  funext e s' H'
  cases e with
  |normal=>
   refine propext ⟨?_,?_⟩
   ·rintro⟨s'',H'',y,hW,hI,hlt⟩
    exact⟨s'',H'',μ y,hW,⟨y,rfl,hI,step y s'' H'' hI⟩,hlt⟩
   ·rintro⟨s'',H'',m',hW,⟨y,rfl,hI,_⟩,hlt⟩
    exact⟨s'',H'',y,hW,hI,hlt⟩
  |_=>rfl
 rw[e]at h
 exact h
theorem uP(ops:Array Oper)(Q:aQ)(s:Nat→AV)(H:aa):aN P hint n ops Q [] s H=Q .normal s H:=rfl
theorem tg(ops:Array Oper)(Q:aQ)(d:Option Tmp)(op:Op)(ty:TypeId)(p:String)(af:Array Edge)(rest:List Oper)(s:Nat→AV)(H:aa):
  aN P hint n ops Q (⟨d,op,ty,p,af,none⟩::rest) s H=aB P hint s H ⟨d,op,ty,p,af,none⟩ (IU P hint n ops Q rest s d) (ES Q s):=rfl
theorem p9(ops:Array Oper)(Q:aQ)(d:Option Tmp)(op:Op)(ty:TypeId)(p:String)(af:Array Edge)(j:Nat)(b:Bool)(rest:List Oper)(s:Nat→AV)(H:aa):
  aN P hint n ops Q (⟨d,op,ty,p,af,some (j,b)⟩::rest) s H=ob (fx ops s n j b) fun b'=>n9 b' (aB P hint s H ⟨d,op,ty,p,af,some (j,b)⟩ (IU P hint n ops Q rest s d) (ES Q s)) (aN P hint n ops Q rest (bp n s d (.a7 [])) H):=by
 simp only[aN,cN]
 cases fx ops s n j b with
 |none=>rfl
 |some b'=>cases b'<;>rfl
theorem B4(w b:Bool):HQ w (.d (.v (.bool b)))=some (b==w):=rfl
theorem Ei(w:Bool):HQ w (.a7 [])=some false:=rfl
theorem Al(ops:Array Oper)(s:Nat→AV)(j:Nat)(w:Bool):fx ops s n j w=((ops[j]?).bind (·.dst)).bind fun d=>if d<n then HQ w (s d)else none:=by
 unfold fx
 cases(ops[j]?).bind (·.dst)with
 |none=>rfl
 |some d=>rfl
end
section
variable (P:Program) (hint:Nat→Bool) (s:Nat→AV) (H:aa) (d:Option Tmp) (ty:TypeId) (p:String) (af:Array Edge) (g:Option (Nat×Bool)) (K:AV→aa→Prop) (KP:Value→aa→Prop)
def hintOf(hint:Nat→Bool)(d:Option Tmp):Bool:=match d with|some d=>hint d|none=>false
theorem DL(x:Operand):aB P hint s H ⟨d,.move x,ty,p,af,g⟩ K KP=K (ah s x) H:=rfl
theorem Bq(x:Operand):aB P hint s H ⟨d,.assign x,ty,p,af,g⟩ K KP=K (ah s x) H:=rfl
theorem EE(c x y:Operand):aB P hint s H ⟨d,.pick c x y,ty,p,af,g⟩ K KP=ob (JL (ah s c)) fun t=>K (if t=true then ah s x else ah s y) H:=by
 simp only[aB,gJ]
 cases ah s c<;>first|rfl|(rename_i u;cases u<;>first|rfl|(rename_i v;cases v<;>rfl))
def IJ(e:TypeId)(z:Value)(k:Nat)(H:aa)(K:AV→aa→Prop):Prop:=∃id e',H[id]?=some (.arr e' k 0 [])∧K (.ptr id 1 0 0) (H.set id (.box e k 1 1 (bE z.cells)))
theorem vc(e:TypeId):aB P hint s H ⟨d,.alloc e,ty,p,af,g⟩ K KP=ob (TI P e) fun z=>dx P e=true∧n9 (hintOf hint d) (IJ e z.1 z.2.1 H K) (K (.ptr H.length 0 0 0) (H++[.box e z.2.1 0 1 (bE z.1.cells)])):=by
 simp only[aB,gJ]
 rcases h:TI P e with _|⟨z,k,b⟩
 ·rfl
 ·simp only[aM,rS h]
  cases d with
  |none=>rfl
  |some d=>
   simp only[hintOf]
   by_cases hh:hint d=true
   ·rw[if_pos hh,hh];rfl
   ·rw[if_neg hh,show hint d=false by simpa using hh];rfl
theorem FR(e:TypeId)(x:Operand):aB P hint s H ⟨d,.box e x,ty,p,af,g⟩ K KP=ob (cellsOf (ah s x)) fun cs=>0<cs.length∧K (.ptr H.length 0 0 0) (H++[.box e cs.length 0 1 cs]):=by
 simp only[aB,gJ]
 cases cellsOf (ah s x)<;>rfl
theorem C8(t:TypeId)(ps:Array (Nat×Operand)):aB P hint s H ⟨d,.build t ps,ty,p,af,g⟩ K KP=ob (TI P t) fun z=>z.1.cells.all Value.oneCell'=true∧ml (SP P t) (fun places=>ob (eh (places.toArray[·]?) (bE z.1.cells) (b9 s ps)) fun out=>K (.agg out) H)
  (ob (AE P t) fun ne=>ob (TI P ne.2) fun ze=>ob (eh (fun i=>some (i* ze.2.1,ze.2.1)) (bE z.1.cells) (b9 s ps)) fun out=>K (.agg out) H):=by
 simp only[aB,gJ]
 rcases TI P t with _|⟨z,k,b⟩
 ·rfl
 ·simp only[aM]
  congr 1
  cases SP P t with
  |some pl=>simp only[ej];cases eh (pl.toArray[·]?) (bE z.cells) (b9 s ps)<;>rfl
  |none=>
   simp only[ec]
   rcases AE P t with _|⟨m,e⟩
   ·rfl
   ·simp only[aM]
    rcases TI P e with _|⟨ze,ke,be⟩
    ·rfl
    ·simp only[aM];cases eh (fun i=>some (i* ke,ke)) (bE z.cells) (b9 s ps)<;>rfl
theorem qE(t:TypeId)(m:Nat)(ps:Array (Nat×Operand)):aB P hint s H ⟨d,.buildSlice t (m+1) ps,ty,p,af,g⟩ K KP=ob (SE P t) fun e=>ob (TI P e) fun z=>
  (dx P e=true∧(m+1)* z.2.1≤16777216)∧ob (eh (fun i=>some (i* z.2.1,z.2.1)) (gV z.1 ((m+1)* z.2.1)) (b9 s ps)) fun out=>ob (mV out) fun ds=>
   n9 (hintOf hint d) (K (.sl H.length 0 0 (m+1)) (H++[.arr e z.2.1 0 (chunk (m+1) z.2.1 ds)])) (K (.d (.list true (chunk (m+1) z.2.1 ds))) H):=by
 simp only[aB,gJ]
 cases SE P t with
 |none=>rfl
 |some e=>
  simp only[aM]
  rcases h:TI P e with _|⟨z,k,b⟩
  ·rfl
  ·simp only[aM,Nat.add_one_ne_zero,if_false]
   have hc:(z.cells.size=k∧z.cells.all Value.oneCell'=true∧(m+1)* k≤16777216∧0<(m+1)* k)=(dx P e=true∧(m+1)* k≤16777216):=by
    rw[rS h]
    refine propext ⟨fun⟨h1,h2,h3,h4⟩=>⟨⟨Nat.pos_of_mul_pos_left h4,h1,h2⟩,h3⟩,fun⟨⟨h0,h1,h2⟩,h3⟩=>⟨h1,h2,h3,Nat.mul_pos (Nat.succ_pos m) h0⟩⟩
   rw[hc]
   congr 1
   cases eh (fun i=>some (i* k,k)) (gV z ((m+1)* k)) (b9 s ps)with
   |none=>rfl
   |some out=>
    simp only[aM]
    cases mV out with
    |none=>rfl
    |some ds=>rfl
theorem ou(t:TypeId)(ps:Array (Nat×Operand)):aB P hint s H ⟨d,.buildSlice t 0 ps,ty,p,af,g⟩ K KP=ob (SE P t) fun e=>ob (TI P e) fun _=>ps=#[]∧K .di H:=by
 simp only[aB,gJ]
 cases SE P t with
 |none=>rfl
 |some e=>
  simp only[aM]
  rcases TI P e with _|⟨z,k,b⟩<;>simp[ob]
theorem DJ(t:TypeId)(x:Operand):aB P hint s H ⟨d,.load t x,ty,p,af,g⟩ K KP=ob (dr P t) fun b=>n9 b (ob (TI P t) fun z=>ob (ea H z.2.1 (ah s x)) fun cs=>K (.agg cs) H) (ob (KF (ea H 1 (ah s x))) fun c=>K c H):=by
 simp only[aB,gJ]
 cases dr P t with
 |none=>rfl
 |some b=>
  cases b with
  |true=>
   simp only[aM,re]
   rcases TI P t with _|⟨z,k,b⟩
   ·rfl
   ·simp only[aM];cases ea H k (ah s x)<;>rfl
  |false=>
   simp only[aM,gb]
   cases ea H 1 (ah s x)with
   |none=>rfl
   |some cs=>rcases cs with _|⟨c,_|⟨c',l⟩⟩<;>rfl
theorem BU(t:TypeId)(x y:Operand):aB P hint s H ⟨d,.store t x y,ty,p,af,g⟩ K KP=ob (TI P t) fun z=>ob (cellsOf (ah s y)) fun cs=>cs.length=z.2.1∧ob (pt H cs (ah s x)) fun H'=>K .top H':=by
 simp only[aB,gJ]
 rcases TI P t with _|⟨z,k,b⟩
 ·rfl
 ·simp only[aM]
  cases cellsOf (ah s y)with
  |none=>rfl
  |some cs=>simp only[aM];congr 1;cases pt H cs (ah s x)<;>rfl
theorem tj(t:TypeId)(x:Operand)(f:Nat):aB P hint s H ⟨d,.fieldAddr t x f,ty,p,af,g⟩ K KP=ob (FO P t f) fun o=>ob (TI P o.2) fun z=>0<z.2.1∧fresh H (ah s x)=true∧ob (fQ o.1 (ah s x)) fun y=>K y H:=by
 simp only[aB,gJ]
 rcases FO P t f with _|⟨off,ft⟩
 ·rfl
 ·simp only[aM]
  rcases TI P ft with _|⟨z,k,b⟩
  ·rfl
  ·simp only[aM];congr 2;cases fQ off (ah s x)<;>rfl
theorem sQ(t:TypeId)(x i:Operand):aB P hint s H ⟨d,.indexAddr t x i,ty,p,af,g⟩ K KP=ob (KV (ah s i)) fun i=>ml (SE P t) (fun e=>ob (TI P e) fun z=>ob (gu H z.2.1 i (ah s x)) fun y=>K y H)
  (ob (AE P t) fun ne=>ob (TI P ne.2) fun z=>0≤i∧i<ne.1∧fresh H (ah s x)=true∧ob (fQ (i.toNat* z.2.1) (ah s x)) fun y=>K y H):=by
 have main:∀n:Int,(match SE P t with
   |some e=>(match TI P e with|some (_,k,_)=>(match gu H k n (ah s x)with|some y=>K y H|none=>False)|none=>False)
   |none=>(match AE P t with
    |some (m,e)=>(match TI P e with|some (_,k,_)=>0≤n∧n<m∧fresh H (ah s x)=true∧(match fQ (n.toNat* k) (ah s x)with|some y=>K y H|none=>False)|none=>False)
    |none=>False))=ml (SE P t) (fun e=>ob (TI P e) fun z=>ob (gu H z.2.1 n (ah s x)) fun y=>K y H)
  (ob (AE P t) fun ne=>ob (TI P ne.2) fun z=>0≤n∧n<ne.1∧fresh H (ah s x)=true∧ob (fQ (n.toNat* z.2.1) (ah s x)) fun y=>K y H):=by
  intro n
  cases SE P t with
  |some e=>
   simp only[ej]
   rcases TI P e with _|⟨z,k,b⟩
   ·rfl
   ·simp only[aM];cases gu H k n (ah s x)<;>rfl
  |none=>
   simp only[ec]
   rcases AE P t with _|⟨m,e⟩
   ·rfl
   ·simp only[aM]
    rcases TI P e with _|⟨z,k,b⟩
    ·rfl
    ·simp only[aM];congr 3;cases fQ (n.toNat* k) (ah s x)<;>rfl
 simp only[aB,gJ]
 cases ah s i<;>first|rfl|skip
 rename_i u
 cases u<;>first|rfl|skip
 rename_i v
 cases v<;>first|rfl|exact main _
def Hp{α β:Type}(x:Option α)(y:Option β)(F:α→β→Prop)(L:Prop):Prop:=match x,y with|some a,some b=>F a b|_,_=>L
theorem BW{α β:Type}(a:α)(b:β)(F:α→β→Prop)(L:Prop):Hp (some a) (some b) F L=F a b:=rfl
theorem zZ{α β:Type}(y:Option β)(F:α→β→Prop)(L:Prop):Hp none y F L=L:=rfl
theorem A9{α β:Type}{x x':Option α}{y y':Option β}{F:α→β→Prop}{L:Prop}(g:nf x=x')(h:nf y=y'):Hp x y F L=Hp x' y' F L:=by rw[←g,←h];rfl
attribute [go_sem] BW zZ
theorem Fp(op:BinOp)(t:TypeId)(x y:Operand)(t':TypeId):aB P hint s H ⟨d,.binOp op t x y t',ty,p,af,g⟩ K KP=Hp (closed (ah s x)) (closed (ah s y)) (fun u v=>cw P op t u v (CE K H)) (lg P H op t (ah s x) (ah s y)=true∧K (.d (.v (.bool (ox op)))) H):=by
 simp only[aB,gJ]
 cases closed (ah s x)with
 |none=>rfl
 |some u=>cases closed (ah s y)<;>rfl
theorem Hq(op:UnOp)(t:TypeId)(x:Operand):aB P hint s H ⟨d,.unOp op t x,ty,p,af,g⟩ K KP=ob (closed (ah s x)) fun u=>BO op u (CE K H):=by
 simp only[aB,gJ]
 cases closed (ah s x)<;>rfl
def HZ:AV→Option (List (List D))
 | .d (.list _ es)=>some es
 |_=>none
theorem rj(nn:Bool)(es:List (List D)):HZ (.d (.list nn es))=some es:=rfl
theorem xK(a b:TypeId)(x:Operand):aB P hint s H ⟨d,.convert a b x,ty,p,af,g⟩ K KP=ml (SE P a) (fun e=>UK P e=some .u8∧P.underlying b=some .string∧ob (HZ (ah s x)) fun es=>ob (iK es) fun ns=>K (.d (.v (.string (kx ns)))) H)
  (ob (Cd (closed (ah s x))) fun n=>ob (UK P a) fun _=>ob (UK P b) fun k=>K (.d (.v (.int k (k.wrap n)))) H):=by
 have main:∀n:Int,(match UK P a,UK P b with|some _,some k=>K (.d (.v (.int k (k.wrap n)))) H|_,_=>False)=ob (UK P a) fun _=>ob (UK P b) fun k=>K (.d (.v (.int k (k.wrap n)))) H:=by
  intro n
  cases UK P a with
  |none=>rfl
  |some _=>simp only[aM];cases UK P b<;>rfl
 simp only[aB,gJ]
 cases SE P a with
 |some e=>
  simp only[ej]
  congr 2
  cases ah s x<;>first|rfl|(rename_i u;cases u<;>first|rfl|(rename_i es;simp only[rj,aM];cases iK es<;>rfl))
 |none=>
  simp only[ec]
  cases closed (ah s x)with
  |none=>rfl
  |some v=>cases v<;>first|rfl|exact main _
theorem w9(x:Operand)(i:Nat):aB P hint s H ⟨d,.extract x i,ty,p,af,g⟩ K KP=ob (KU (ah s x)) fun cs=>ob cs[i]? fun c=>K c H:=by
 simp only[aB,gJ]
 cases ah s x<;>first|rfl|skip
 rename_i cs
 simp only[zi,aM]
 cases cs[i]?<;>rfl
theorem u0(f:FuncId)(x y:Array Operand):aB P hint s H ⟨d,.makeFunc (.func f) x y,ty,p,af,g⟩ K KP=(x=#[]∧K (.fn f (y.toList.map (ah s))) H):=rfl
theorem tZ(x:Operand):aB P hint s H ⟨d,.nilCheck x,ty,p,af,g⟩ K KP=(sv H (ah s x)=true∧K (ah s x) H):=rfl
def Ce:AV→Option Nat
 | .mp id=>some id
 |_=>none
theorem oi(id:Nat):Ce (.mp id)=some id:=rfl
def CA:Option ay→Option (IntKind×List (Int×AV))
 |some (.mp kk es)=>some (kk,es)
 |_=>none
theorem tw(kk:IntKind)(es:List (Int×AV)):CA (some (.mp kk es))=some (kk,es):=rfl
def Bz:Option Value→Option (IntKind×Int)
 |some (.int k i)=>some (k,i)
 |_=>none
theorem pz(k:IntKind)(i:Int):Bz (some (.int k i))=some (k,i):=rfl
attribute [go_sem] oi tw pz
theorem Gy(x:Operand)(t:TypeId)(ts:Array TypeId)(h:ts.toList=[t]):aB P hint s H ⟨d,.call ⟨.builtin .len,#[x],ts⟩,ty,p,af,g⟩ K KP=ml (SE P t) (fun _=>ob (oX H (ah s x)) fun n=>K (.d (.v (.int .i64 n))) H)
  (ml (MT P t) (fun m=>ob (Ce (ah s x)) fun id=>ob (CA H[id]?) fun o=>o.1=m.1∧K (.d (.v (.int .i64 o.2.length))) H)
  (P.underlying t=some .string∧ob (CN (closed (ah s x))) fun b=>K (.d (.v (.int .i64 b.size))) H)):=by
 simp only[aB,b7,h]
 cases SE P t with
 |some e=>simp only[ej];cases oX H (ah s x)<;>rfl
 |none=>
  simp only[ec]
  rcases MT P t with _|⟨kk,kt,e⟩
  ·simp only[ec]
   congr 1
   cases closed (ah s x)with
   |none=>rfl
   |some v=>cases v<;>rfl
  ·simp only[ej]
   cases ah s x with
   |mp id=>
    simp only[oi,aM]
    rcases H[id]? with _|o
    ·rfl
    ·cases o<;>rfl
   |_=>rfl
theorem DK(x:Operand)(t:TypeId):aB P hint s H ⟨d,.call ⟨.builtin .len,#[x],#[t]⟩,ty,p,af,g⟩ K KP=ml (SE P t) (fun _=>ob (oX H (ah s x)) fun n=>K (.d (.v (.int .i64 n))) H)
  (ml (MT P t) (fun m=>ob (Ce (ah s x)) fun id=>ob (CA H[id]?) fun o=>o.1=m.1∧K (.d (.v (.int .i64 o.2.length))) H)
  (P.underlying t=some .string∧ob (CN (closed (ah s x))) fun b=>K (.d (.v (.int .i64 b.size))) H)):=Gy P hint s H d ty p af g K KP x t #[t] rfl
theorem Ft(x:Operand)(xs:List Operand)(ts:Array TypeId):aB P hint s H ⟨d,.call ⟨.builtin .min,⟨x::xs⟩,ts⟩,ty,p,af,g⟩ K KP=ob (Bz (closed (ah s x))) fun n=>ob (b6 s n.1 xs) fun ns=>K (.d (.v (.int n.1 (ns.foldl min n.2)))) H:=by
 simp only[aB,b7]
 cases closed (ah s x)with
 |none=>rfl
 |some v=>cases v<;>first|rfl|(rename_i k n;simp only[pz,aM];cases b6 s k xs<;>rfl)
theorem Ge(x:Operand)(xs:List Operand)(ts:Array TypeId):aB P hint s H ⟨d,.call ⟨.builtin .max,⟨x::xs⟩,ts⟩,ty,p,af,g⟩ K KP=ob (Bz (closed (ah s x))) fun n=>ob (b6 s n.1 xs) fun ns=>K (.d (.v (.int n.1 (ns.foldl max n.2)))) H:=by
 simp only[aB,b7]
 cases closed (ah s x)with
 |none=>rfl
 |some v=>cases v<;>first|rfl|(rename_i k n;simp only[pz,aM];cases b6 s k xs<;>rfl)
theorem uq(k:IntKind):b6 s k []=some []:=rfl
theorem tc(k:IntKind)(x:Operand)(xs:List Operand):b6 s k (x::xs)=(Bz (closed (ah s x))).bind fun n=>(b6 s k xs).bind fun ns=>if n.1=k then some (n.2::ns)else none:=by
 show(match closed (ah s x),b6 s k xs with|some (.int k' n),some ns=>if k'=k then some (n::ns)else none|_,_=>none)=_
 cases closed (ah s x)with
 |none=>rfl
 |some v=>cases v<;>first|rfl|(cases b6 s k xs<;>rfl)
theorem Dx(t:TypeId)(x:Operand)(lo hi:Option Operand):aB P hint s H ⟨d,.slice t x lo hi none,ty,p,af,g⟩ K KP=ml (SE P t) (fun e=>ob (TI P e) fun z=>cY H z.2.1 (aS s lo) (fun n=>cK s n hi) K (ah s x))
  (ml (AE P t) (fun ne=>(lo.isNone=true∧hi.isNone=true)∧ob (TI P ne.2) fun z=>z.2.1=1∧wX H ne.1 K (ah s x))
  (P.underlying t=some .string∧ob (CN (closed (ah s x))) fun b=>ob (aS s lo) fun l=>ob (cK s b.size hi) fun h=>0≤l∧l≤h∧h≤b.size∧K (.d (.v (.string (b.extract l.toNat h.toNat)))) H)):=by
 simp only[aB,gJ]
 cases SE P t with
 |some e=>
  simp only[ej]
  rcases TI P e with _|⟨z,k,b⟩<;>rfl
 |none=>
  simp only[ec]
  rcases AE P t with _|⟨n,e⟩
  ·simp only[ec]
   congr 1
   cases closed (ah s x)with
   |none=>rfl
   |some v=>
    cases v<;>first|rfl|skip
    rename_i b
    simp only[kg,aM]
    cases aS s lo with
    |none=>rfl
    |some l=>simp only[aM];cases cK s b.size hi<;>rfl
  ·simp only[ej]
   rcases TI P e with _|⟨z,k,b⟩<;>rfl
theorem wg(k:Nat)(lo:Option Int)(hi:Nat→Option Int)(K:AV→aa→Prop)(nn:Bool)(es:List (List D)):cY H k lo hi K (.d (.list nn es))=((∀c∈es,c.length=k)∧ob lo fun l=>ob (hi es.length) fun h=>0≤l∧l≤h∧h≤es.length∧K (.d (.list false ((es.take h.toNat).drop l.toNat))) H):=by
 simp only[cY]
 congr 1
 cases lo with
 |none=>rfl
 |some l=>simp only[aM];cases hi es.length<;>rfl
theorem Br(k:Nat)(lo:Option Int)(hi:Nat→Option Int)(K:AV→aa→Prop)(id ver off len:Nat):cY H k lo hi K (.sl id ver off len)=(ob H[id]? fun o=>ob lo fun l=>ob (hi len) fun h=>(o.ver=ver∧o.k=k∧o.live=true)∧0≤l∧l≤h∧h≤len∧(l=0∨l<h)∧K (.sl id ver (off+l.toNat) (h.toNat-l.toNat)) H):=by
 simp only[cY]
 cases H[id]? with
 |none=>rfl
 |some o=>
  cases lo with
  |none=>rfl
  |some l=>simp only[aM];cases hi len<;>rfl
theorem Am(t:TypeId)(x:Operand)(lo:Option Operand)(hi mx:Operand):aB P hint s H ⟨d,.slice t x lo (some hi) (some mx),ty,p,af,g⟩ K KP=ob (SE P t) fun e=>ob (TI P e) fun z=>eR H z.2.1 (aS s lo) (aS s (some hi)) (aS s (some mx)) K (ah s x):=by
 simp only[aB,gJ]
 cases SE P t with
 |some e=>
  simp only[aM]
  rcases TI P e with _|⟨z,k,b⟩<;>rfl
 |none=>rfl
theorem sL(k:Nat)(lo hi mx:Option Int)(K:AV→aa→Prop)(nn:Bool)(es:List (List D)):eR H k lo hi mx K (.d (.list nn es))=((∀c∈es,c.length=k)∧ob lo fun l=>ob hi fun h=>ob mx fun m=>0≤l∧l≤h∧h≤m∧m≤es.length∧K (.d (.list false ((es.take h.toNat).drop l.toNat))) H):=by
 cases lo<;>cases hi<;>cases mx<;>rfl
theorem Dl(x:Operand)(t:TypeId):aB P hint s H ⟨d,.call ⟨.builtin .clear,#[x],#[t]⟩,ty,p,af,g⟩ K KP=ob (SE P t) fun e=>ob (TI P e) fun z=>(z.1.cells.size=z.2.1∧z.1.cells.all Value.oneCell'=true)∧(match ah s x with
    | .sl id ver off len=>(match H[id]? with
     |some (.arr e' k' ver' es)=>(e'=e∧k'=z.2.1∧ver'=ver)∧K (.a7 []) (H.set id (.arr e z.2.1 ver (bQ es off (fh z.1 len))))
     |_=>False)
    |_=>False):=by
 simp only[aB,b7]
 cases SE P t with
 |none=>rfl
 |some e=>
  simp only[aM]
  rcases TI P e with _|⟨z,k,b⟩<;>rfl
theorem sK:aS s none=some 0:=rfl
theorem sf(x:Operand):aS s (some x)=Cd (closed (ah s x)):=by
 simp only[aS]
 cases closed (ah s x)with
 |none=>rfl
 |some v=>cases v<;>rfl
theorem sE(n:Nat):cK s n none=some (n:Int):=rfl
theorem r7(n:Nat)(x:Operand):cK s n (some x)=Cd (closed (ah s x)):=by
 simp only[cK]
 cases closed (ah s x)with
 |none=>rfl
 |some v=>cases v<;>rfl
theorem Ds(t:TypeId)(x ix:Operand):aB P hint s H ⟨d,.index t x ix,ty,p,af,g⟩ K KP=(P.underlying t=some .string∧ob (CN (closed (ah s x))) fun b=>ob (Cd (closed (ah s ix))) fun i=>0≤i∧ob b[i.toNat]? fun u=>K (.d (.v (.int .u8 u.toNat))) H):=by
 simp only[aB,gJ]
 congr 1
 cases closed (ah s x)with
 |none=>rfl
 |some v=>
  cases v<;>first|rfl|skip
  rename_i b
  cases closed (ah s ix)with
  |none=>rfl
  |some v=>
   cases v<;>first|rfl|skip
   simp only[kg,aM,uv]
   rename_i i
   congr 1
   cases b[i.toNat]?<;>rfl
theorem xI(t:TypeId):aB P hint s H ⟨d,.makeMap t none,ty,p,af,g⟩ K KP=ob (MT P t) fun m=>K (.mp H.length) (H++[.mp m.1 []]):=by
 simp only[aB,gJ]
 rcases MT P t with _|⟨kk,kt,e⟩<;>rfl
theorem BM(t:TypeId)(x ix:Operand)(ok:Bool):aB P hint s H ⟨d,.lookup t x ix ok,ty,p,af,g⟩ K KP=ob (MT P t) fun m=>ob (TI P m.2.2) fun z=>ob (Ce (ah s x)) fun id=>ob (CA H[id]?) fun o=>ob (Bz (closed (ah s ix))) fun n=>
  (o.1=m.1∧n.1=m.1)∧K (if ok then .a7 [(ed n.2 o.2).getD (bT z.1),.d (.v (.bool (ed n.2 o.2).isSome))]else(ed n.2 o.2).getD (bT z.1)) H:=by
 simp only[aB,gJ]
 rcases MT P t with _|⟨kk,kt,e⟩
 ·rfl
 ·simp only[aM]
  rcases TI P e with _|⟨z,k,b⟩
  ·rfl
  ·simp only[aM]
   cases ah s x with
   |mp id=>
    simp only[oi,aM]
    rcases H[id]? with _|o
    ·rfl
    ·cases o with
     |mp kk es=>
      simp only[tw,aM]
      rcases closed (ah s ix)with _|v
      ·rfl
      ·cases v<;>rfl
     |_=>rfl
   |_=>rfl
theorem r5(t:TypeId)(x ix y:Operand):aB P hint s H ⟨d,.mapUpdate t x ix y,ty,p,af,g⟩ K KP=ob (MT P t) fun m=>ob (Ce (ah s x)) fun id=>ob (CA H[id]?) fun o=>ob (Bz (closed (ah s ix))) fun n=>
  (o.1=m.1∧n.1=m.1)∧K .top (H.set id (.mp m.1 (j6 n.2 (ah s y) o.2))):=by
 simp only[aB,gJ]
 rcases MT P t with _|⟨kk,kt,e⟩
 ·rfl
 ·simp only[aM]
  cases ah s x with
  |mp id=>
   simp only[oi,aM]
   rcases H[id]? with _|o
   ·rfl
   ·cases o with
    |mp kk es=>
     simp only[tw,aM]
     rcases closed (ah s ix)with _|v
     ·rfl
     ·cases v<;>rfl
    |_=>rfl
  |_=>rfl
theorem Ag(t:TypeId)(x ix y:Operand):aB P hint s H ⟨d,.insert t x ix y,ty,p,af,g⟩ K KP=aB P hint s H ⟨d,.mapUpdate t x ix y,ty,p,af,g⟩ K KP:=by simp only[aB,gJ]
theorem GU(b:Bool)(K:Value→Prop):BO .not (.bool b) K=K (.bool !b):=rfl
def HE(k:IntKind)(n:Int):Int:=(BitVec.ofInt k.bits (if k.signed then -1 else k.max)^^^BitVec.ofInt k.bits n).toNat
theorem Gc(k:IntKind)(n:Int)(K:Value→Prop):BO .xor (.int k n) K=K (.int k (k.wrap (HE k n))):=rfl
attribute [go_sem] GU Gc Option.getD_some Option.getD_none Option.isSome_some Option.isSome_none
def xz(k:IntKind)(m n:Int):Int:=m* 2^(min n.toNat k.bits)
def lE(k:IntKind)(m n:Int):Int:=m.fdiv (2^(min n.toNat k.bits))
def CL(k:IntKind)(m n:Int):Int:=(BitVec.ofInt k.bits m&&&BitVec.ofInt k.bits n).toNat
def G8(k:IntKind)(m n:Int):Int:=(BitVec.ofInt k.bits m|||BitVec.ofInt k.bits n).toNat
def HJ(k:IntKind)(m n:Int):Int:=(BitVec.ofInt k.bits m^^^BitVec.ofInt k.bits n).toNat
theorem GV(P:Program)(t:TypeId)(k k':IntKind)(m n:Int)(K:Value→Prop):cw P .shl t (.int k m) (.int k' n) K=(0≤n∧K (.int k (k.wrap (xz k m n)))):=rfl
theorem Gw(P:Program)(t:TypeId)(k k':IntKind)(m n:Int)(K:Value→Prop):cw P .shr t (.int k m) (.int k' n) K=(0≤n∧K (.int k (lE k m n))):=rfl
theorem FM(P:Program)(t:TypeId)(k k':IntKind)(m n:Int)(K:Value→Prop):cw P .add t (.int k m) (.int k' n) K=(k=k'∧K (.int k (k.wrap (m+n)))):=rfl
theorem FH(P:Program)(t:TypeId)(k k':IntKind)(m n:Int)(K:Value→Prop):cw P .sub t (.int k m) (.int k' n) K=(k=k'∧K (.int k (k.wrap (m-n)))):=rfl
theorem FF(P:Program)(t:TypeId)(k k':IntKind)(m n:Int)(K:Value→Prop):cw P .mul t (.int k m) (.int k' n) K=(k=k'∧K (.int k (k.wrap (m* n)))):=rfl
theorem GH(P:Program)(t:TypeId)(k k':IntKind)(m n:Int)(K:Value→Prop):cw P .quo t (.int k m) (.int k' n) K=(k=k'∧n≠0∧K (.int k (k.wrap (m.tdiv n)))):=rfl
theorem F7(P:Program)(t:TypeId)(k k':IntKind)(m n:Int)(K:Value→Prop):cw P .rem t (.int k m) (.int k' n) K=(k=k'∧n≠0∧K (.int k (m.tmod n))):=rfl
theorem Fs(P:Program)(t:TypeId)(k k':IntKind)(m n:Int)(K:Value→Prop):cw P .and t (.int k m) (.int k' n) K=(k=k'∧K (.int k (k.wrap (CL k m n)))):=rfl
theorem I1(P:Program)(t:TypeId)(k k':IntKind)(m n:Int)(K:Value→Prop):cw P .or t (.int k m) (.int k' n) K=(k=k'∧K (.int k (k.wrap (G8 k m n)))):=rfl
theorem GB(P:Program)(t:TypeId)(k k':IntKind)(m n:Int)(K:Value→Prop):cw P .xor t (.int k m) (.int k' n) K=(k=k'∧K (.int k (k.wrap (HJ k m n)))):=rfl
theorem GD(P:Program)(t:TypeId)(k k':IntKind)(m n:Int)(K:Value→Prop):cw P .eql t (.int k m) (.int k' n) K=(k=k'∧K (.bool (m==n))):=rfl
theorem FL(P:Program)(t:TypeId)(k k':IntKind)(m n:Int)(K:Value→Prop):cw P .neq t (.int k m) (.int k' n) K=(k=k'∧K (.bool (m !=n))):=rfl
theorem Gg(P:Program)(t:TypeId)(k k':IntKind)(m n:Int)(K:Value→Prop):cw P .lss t (.int k m) (.int k' n) K=(k=k'∧K (.bool (decide (m<n)))):=rfl
theorem Gz(P:Program)(t:TypeId)(k k':IntKind)(m n:Int)(K:Value→Prop):cw P .leq t (.int k m) (.int k' n) K=(k=k'∧K (.bool (decide (m≤n)))):=rfl
theorem FP(P:Program)(t:TypeId)(k k':IntKind)(m n:Int)(K:Value→Prop):cw P .gtr t (.int k m) (.int k' n) K=(k=k'∧K (.bool (decide (m>n)))):=rfl
theorem FA(P:Program)(t:TypeId)(k k':IntKind)(m n:Int)(K:Value→Prop):cw P .geq t (.int k m) (.int k' n) K=(k=k'∧K (.bool (decide (m≥n)))):=rfl
theorem GY(P:Program)(t:TypeId)(m n:ByteArray)(K:Value→Prop):cw P .eql t (.string m) (.string n) K=K (.bool (m.toList==n.toList)):=rfl
theorem GM(P:Program)(t:TypeId)(m n:ByteArray)(K:Value→Prop):cw P .neq t (.string m) (.string n) K=K (.bool (!(m.toList==n.toList))):=rfl
theorem Fk(P:Program)(t:TypeId)(m n:ByteArray)(K:Value→Prop):cw P .lss t (.string m) (.string n) K=K (.bool (Op.bytesLess m.toList n.toList)):=rfl
theorem FU(P:Program)(t:TypeId)(m n:ByteArray)(K:Value→Prop):cw P .gtr t (.string m) (.string n) K=K (.bool (!(Op.bytesLess m.toList n.toList||m.toList==n.toList))):=rfl
attribute [go_sem] GV Gw FM FH FF GH F7 Fs I1 GB GD FL Gg Gz FP FA GY GM Fk FU
def kR(H:aa)(e:TypeId)(k b:Nat)(news:List (List D))(K:AV→aa→Prop):AV→Prop
 | .sl id ver 0 len=>ob H[id]? fun o=>match o with
  | .arr e' k' ver' es=>(e'=e∧k'=k∧ver'=ver∧es.length=len)∧(es.length+news.length)* b≤140737488355328∧es.length+news.length≤9223372036854775807∧
    K (.sl id (ver+1) 0 (es.length+news.length)) (H.set id (.arr e k (ver+1) (es++news)))
  |_=>False
 |x=>isNone x=true∧news.length* b≤140737488355328∧news.length≤9223372036854775807∧K (.sl H.length 1 0 news.length) (H++[.arr e k 1 news])
theorem Ak(H:aa)(e:TypeId)(k b:Nat)(news:List (List D))(K:AV→aa→Prop):kR H e k b news K (.d (.v (.slice none 0 0)))=(news.length* b≤140737488355328∧news.length≤9223372036854775807∧K (.sl H.length 1 0 news.length) (H++[.arr e k 1 news])):=by
 simp[kR,isNone]
theorem yX(H:aa)(e:TypeId)(k b:Nat)(news:List (List D))(K:AV→aa→Prop):kR H e k b news K .di=(news.length* b≤140737488355328∧news.length≤9223372036854775807∧K (.sl H.length 1 0 news.length) (H++[.arr e k 1 news])):=by
 simp[kR,isNone]
theorem Bp(x y:Operand)(t t':TypeId):aB P hint s H ⟨d,.call ⟨.builtin .append,#[x,y],#[t,t']⟩,ty,p,af,g⟩ K KP=ob (SE P t) fun e=>ob (TI P e) fun z=>(z.1.cells.size=z.2.1∧0<z.2.1)∧ob (pM P t t' z.2.1 H (ah s y)) fun news=>
  (∀c∈news,c.length=z.2.1)∧kR H e z.2.1 z.2.2 news K (ah s x):=by
 simp only[aB,b7]
 cases SE P t with
 |none=>simp[ob]
 |some e=>
  simp only[aM]
  rcases TI P e with _|⟨z,k,b⟩
  ·rfl
  ·simp only[aM]
   congr 1
   cases pM P t t' k H (ah s y)with
   |none=>rfl
   |some news=>
    simp only[aM]
    congr 1
    cases ah s x with
    |sl id ver off len=>
     cases off with
     |zero=>
      simp only[kR]
      cases H[id]? with
      |none=>rfl
      |some ob=>cases ob<;>rfl
     |succ off=>rfl
    |_=>rfl
def ae(P:Program)(f:FuncId)(args:List AV)(H:aa)(K:AV→aa→Prop)(KP:Value→aa→Prop):Prop:=∃res H',ag P f args H res H'∧(match res with| .ok r=>K r H'| .panic v=>KP v H')
def ql(P:Program)(id:Nat)(args:List AV)(H:aa)(K:AV→aa→Prop):Prop:=∃R,tI P H id args R∧∀b H',R b H'→K (.d (.v (.bool b))) H'
theorem ql.ok{P:Program}{id:Nat}{args:List AV}{H:aa}{K:AV→aa→Prop}{R:Bool→aa→Prop}(h:tI P H id args R)(hk:∀b H',R b H'→K (.d (.v (.bool b))) H'):ql P id args H K:=⟨R,h,hk⟩
theorem DF(f:Operand)(xs:Array Operand)(ts:Array TypeId):aB P hint s H ⟨d,.call ⟨.value f,xs,ts⟩,ty,p,af,g⟩ K KP=oc (ah s f) (fun f cs=>ae P f (xs.toList.map (ah s)++cs) H K KP) (fun id=>hint 3000000=true∧ql P id (xs.toList.map (ah s)) H K):=by
 simp only[aB]
 cases ah s f<;>rfl
theorem ae.ok{P:Program}{f:FuncId}{args:List AV}{H:aa}{K:AV→aa→Prop}{KP:Value→aa→Prop}{r:AV}{H':aa}(h:ag P f args H (.ok r) H')(hk:K r H'):ae P f args H K KP:=⟨_,_,h,hk⟩
theorem ae.panic{P:Program}{f:FuncId}{args:List AV}{H:aa}{K:AV→aa→Prop}{KP:Value→aa→Prop}{v:Value}{H':aa}(h:ag P f args H (.panic v) H')(hk:KP v H'):ae P f args H K KP:=⟨_,_,h,hk⟩
end
attribute [go_sem] DB cU rD CW qs gI yB tm yq Ai BZ vS yT dS qT vB Ej uP tg p9 DL Bq EE vc FR C8 qE ou DJ BU tj sQ Fp Hq xK rj w9 u0 tZ DK xI BM r5 Dx Option.isNone_none Option.isNone_some wg Br Am sL Dl sK sf sE r7 Ds Ag Ft Ge uq tc List.foldl_cons List.foldl_nil Bp DF Al B4 Ei Ak yX DH DU Ah vx x8 xN uu qz se oy xL oN Cr Cz tM xC yu fJ Bi yn uO xW xS zY xc Ev Bx yA xQ As wz zK yK rn yx Cx AZ Ia A1 ym kO zI CR zv B3 List.set_cons_zero List.set_cons_succ b9 chunk gV eM bE jV ay.ver ay.k ay.live ay.len Bool.and_true AV.one hintOf sv isNone
theorem tail_append(H T:aa):∀i o,i<H.length→(H++T)[i]?=some o→H[i]?=some o∨o.below H.length=true:=fun i o hi h=> .inl (by rwa[List.getElem?_append_left hi]at h)
theorem ak.drop(H T:aa)(s:Nat→AV):ak H s (H++T) (fun t=>pZ (H++T) H.length (s t)) H:=by
 have:=ak.uF (H0:=H) s (H++T) H.length (Nat.le_refl _) (by simp) (tail_append H T)
 rwa[List.take_left]at this
theorem an.ret{rs:List Tmp}{H T:aa}{s:Nat→AV}{r:AV}(h:r=jV rs fun t=>pZ (H++T) H.length (s t)):an rs H (.ok r) H .ret s (H++T):=⟨_,ak.drop H T s,by rw[h]⟩
theorem an.aI{rs:List Tmp}{H:aa}{s:Nat→AV}{r:AV}(h:r=jV rs s):an rs H (.ok r) H .ret s H:=⟨_,ak.refl s H,by rw[h]⟩
theorem Jo(H:aa)(m:Nat)(x:D):pZ H m (.d x)= .d x:=rfl
theorem Eo(H:aa)(m:Nat)(cs:List AV):pZ H m (.agg cs)= .agg (cs.map (lh H m)):=rfl
theorem BQ(H:aa)(m id v off len:Nat):pZ H m (.sl id v off len)=lh H m (.sl id v off len):=rfl
theorem E5(H:aa)(m id v i j:Nat):pZ H m (.ptr id v i j)=lh H m (.ptr id v i j):=rfl
theorem G0(H:aa)(m:Nat)(x:D):lh H m (.d x)= .d x:=rfl
theorem zH(H:aa)(m id v off len:Nat):lh H m (.sl id v off len)=if id<m then .sl id v off len else match H[id]? with
  |some (.arr _ _ ver es)=>if ver=v then .d (.list false ((es.drop off).take len))else .top
  |_=> .top:=rfl
theorem Dd(H:aa)(m id v i j:Nat):lh H m (.ptr id v i j)=if id<m then .ptr id v i j else .top:=rfl
theorem ak.eg(H:aa)(s:Nat→AV)(t:Nat)(e:TypeId)(k:Nat)(hk:0<k)(h:isNone (s t)=true)(H0:aa):ak H0 s H (fun u=>if u=t then .sl H.length 0 0 0 else s u) (H++[.arr e k 0 []]):= .y6 s H t e k 0 hk h
attribute [go_sem] Jo Eo BQ E5 G0 zH Dd
theorem Aw{α:Type}(x:α)(l:List α)(d:α):(x::l).getD 0 d=x:=rfl
theorem A7{α:Type}(x:α)(l:List α)(n:Nat)(d:α):(x::l).getD (n+1) d=l.getD n d:=rfl
theorem getD_nil{α:Type}(n:Nat)(d:α):([]:List α).getD n d=d:=rfl
theorem toList_mk{α:Type}(l:List α):l.toArray.toList=l:=rfl
theorem m7{α:Type}(l:List α)(i:Nat):l.toArray[i]?=l[i]?:=by simp
attribute [go_sem] Aw A7 getD_nil toList_mk m7 List.map_cons List.map_nil List.length_cons List.length_nil List.length_map List.getElem?_cons_zero List.getElem?_cons_succ List.getElem?_map List.getElem?_nil Option.map_some Option.map_none Option.bind_some Option.bind_none List.take_succ_cons List.take_zero List.take_nil List.drop_succ_cons List.drop_zero List.drop_nil List.append_assoc List.cons_append List.nil_append List.all_cons List.all_nil Bool.and_true Bool.true_and Bool.and_false Bool.false_and Bool.and_self Nat.zero_add Nat.add_zero Nat.zero_mul Nat.mul_zero Nat.one_mul Nat.mul_one Bool.not_true Bool.not_false Int.toNat_natCast Int.natCast_nonneg List.size_toArray true_and and_true beq_self_eq_true decide_true decide_false if_true if_false Nat.le_refl ne_eq not_true not_false_iff reduceCtorEq Array.toList_map List.length_append List.mem_cons List.not_mem_nil or_false forall_eq Int.ofNat_lt Int.ofNat_le
theorem Gu:List.range 0=[]:=rfl
theorem Ey(k:IntKind)(n:Int):(Value.int k n).oneCell'=true:=rfl
theorem Dc(b:Bool):(Value.bool b).oneCell'=true:=rfl
theorem xG(b:ByteArray):(Value.string b).oneCell'=true:=rfl
theorem AQ(a:Option Addr)(n c:Nat):(Value.slice a n c).oneCell'=true:=rfl
theorem ud:Value.nilFunc.oneCell'=true:=rfl
theorem wrap64_in(n:Int)(h0:-9223372036854775808≤n)(h1:n≤9223372036854775807):IntKind.i64.wrap n=n:=by
 simp[IntKind.wrap,IntKind.signed,IntKind.bits];omega
theorem bz(n:Int)(h0:0≤n)(h1:n≤18446744073709551615):IntKind.u64.wrap n=n:=by
 simp[IntKind.wrap,IntKind.signed,IntKind.bits];omega
theorem rM(n:Int)(h0:0≤n)(h1:n≤255):IntKind.u8.wrap n=n:=by
 simp[IntKind.wrap,IntKind.signed,IntKind.bits];omega
attribute [go_sem] ge_iff_le gt_iff_lt Gu Ey Dc xG AQ ud List.getElem!_toArray List.getElem!_cons_zero List.getElem!_cons_succ
theorem DM(l:List Value):l.toArray.all Value.oneCell'=l.all Value.oneCell':=by simp
theorem b8{α:Type}(l:List α)(n:Nat)(h:l.length=n):l.take n=l:=by subst h;simp
attribute [go_sem↓] DM
end Go.Proofs.YtggohfhfocgilaaGreatAw
namespace Go.Proofs.YtggohfhfocgilaaGreatAw
open Go.RowKit
theorem Rel.nothing{N:Addr→Prop}{w:World}(h:∀a,N a→∃v,w.cell? a=some v):Rel [] (fun _=>none) N w where
 obj id o h:=by simp at h
 inj i j B c c' hi:=by simp at hi
 live:=h
 apart a id B c ha hid:=by simp at hid
theorem ag.walk{P:Program}{f:FuncId}{fn:Func}{body:Code}(hf:P.funcs[f]?=some fn)(hn:(fn.name== "runtime.NumGoroutine")=false)(hb:fn.body=some body){args:List AV}
  (h:ag P f args [] (.ok (.d (.v (.bool true)))) []) (N:Addr→Prop) (w:World) (vals:Array Value) (hN:∀a,N a→∃v,w.cell? a=some v) (hA:p8 [] (fun _=>none) N w args vals):
  Calls P f vals w fun e w'=>e= .returned (.bool true)∧Below w.heap.size w w':=by
 rcases h (fun _=>none) N w vals (Rel.nothing hN) hA with⟨_,h⟩|⟨v,w',h,_⟩
 ·refine h.mono ?_
  rintro e w' ⟨φ',N',hR,hS,hE⟩
  refine⟨?_,hS.os,hS.tape,hS.output,hS.size,fun k hk=>hS.cM k hk fun id c hid=>by simp at hid⟩
  cases e with
  |returned v=>rw[RA.closed hE]
  |_=>exact hE.elim
 ·rw[fH hf hn (by rw[hb];rfl)]at h
  cases h
end Go.Proofs.YtggohfhfocgilaaGreatAw
namespace Go.Proofs.YtggohfhfocgilaaGreatAw
open Go.RowKit Go.WideShapes
inductive Sh where
 |int (k:IntKind)
 |bool
 |str
 |slice (b:Nat) (es:List Sh)
mutual
inductive Fits:Sh→D→Prop
 |int (k:IntKind) (n:Int) (h:(Lit.int k n).wf=true):Fits (.int k) (.v (.int k n))
 |bool (b:Bool):Fits .bool (.v (.bool b))
 |str (s:ByteArray) (h:s.size≤reachBytes):Fits .str (.v (.string s))
 |slice (b:Nat) (es:List Sh) (l:List (List D)) (h1:l.length* b≤reachBytes) (h2:l.length≤maxLen) (h:∀e∈l,aX es e):Fits (.slice b es) (.list false l)
inductive aX:List Sh→List D→Prop
 |nil:aX [] []
 |cons {s:Sh} {x:D} {ss:List Sh} {xs:List D} (h:Fits s x) (t:aX ss xs):aX (s::ss) (x::xs)
end
def jS(P:Program)(g:TypeId→Option (List Sh)):Nat→List Field→Option (List Sh)
 |_,[]=>some []
 |off,f::fs=>if f.offset=off then(match g f.type with|some l=>if l.length=P.cellsOf f.type then(jS P g (off+l.length) fs).map (l++·)else none|none=>none)else none
def pY(P:Program):Nat→TypeId→Option (List Sh)
 |0,_=>none
 |n+1,t=>match P.underlying t with
  |some .bool=>some [.bool]
  |some (.int k)=>some [.int k]
  |some .string=>some [.str]
  |some (.slice e)=>(match pY P n e with|some es=>if es.length=P.cellsOf e then some [.slice (P.bytesOf e) es]else none|none=>none)
  |some (.struct fs)=>(match jS P (pY P n) 0 fs.toList with|some l=>if l.length=P.cellsOf t then some l else none|none=>none)
  |some (.array m e)=>(match pY P n e with|some es=>if es.length=P.cellsOf e∧P.cellsOf t=m* es.length then some ((List.replicate m es).flatten)else none|none=>none)
  |_=>none
def Live(w:World):Addr→Prop:=fun a=>∃v,w.cell? a=some v
def AM(w:World)(ds:List D)(cs:List Value):Prop:=ds.length=cs.length∧∀i (h1:i<ds.length) (h2:i<cs.length),RD (Live w) w (ds[i]) (cs[i])
theorem AM.nil{w:World}:AM w [] []:=⟨rfl,fun i h=>by simp at h⟩
theorem AM.one{w:World}{d:D}{c:Value}(h:RD (Live w) w d c):AM w [d] [c]:=⟨rfl,fun i h1 h2=>by
 simp only[List.length_singleton]at h1
 have:i=0:=by omega
 subst this;exact h⟩
theorem AM.append{w:World}{ds es:List D}{cs bs:List Value}(h:AM w ds cs)(g:AM w es bs):AM w (ds++es) (cs++bs):=by
 refine⟨by simp[h.1,g.1],fun i h1 h2=>?_⟩
 by_cases hi:i<ds.length
 ·rw[List.getElem_append_left hi,List.getElem_append_left (by rw[←h.1];exact hi)]
  exact h.2 i _ _
 ·simp only[List.length_append]at h1
  rw[List.getElem_append_right (by omega),List.getElem_append_right (by rw[←h.1];omega)]
  have:=g.2 (i-ds.length) (by omega) (by rw[←g.1];omega)
  simpa[h.1]using this
theorem aX.append:∀{ss ts:List Sh} {xs ys:List D},aX ss xs→aX ts ys→aX (ss++ts) (xs++ys)
 |_,_,_,_,.nil,h=>h
 |_,_,_,_,.cons h t,g=> .cons h (t.append g)
theorem aX.len:∀{ss:List Sh} {xs:List D},aX ss xs→xs.length=ss.length
 |_,_,.nil=>rfl
 |_,_,.cons _ t=>by simp[t.len]
theorem nt{α:Type}(p:Nat→α→Prop):∀n,(∀i,i<n→∃y,p i y)→∃l:List α,l.length=n∧∀i (h:i<l.length),p i l[i]
 |0,_=>⟨[],rfl,fun i h=>by simp at h⟩
 |n+1,h=>by
  obtain⟨l,hl,hp⟩:=nt p n fun i hi=>h i (by omega)
  obtain⟨y,hy⟩:=h n (by omega)
  refine⟨l++[y],by simp[hl],fun i hi=>?_⟩
  by_cases e:i<l.length
  ·rw[List.getElem_append_left e];exact hp i e
  ·simp at hi
   have:i=n:=by omega
   subst this
   rw[List.getElem_append_right (by omega)]
   simpa[hl]using hy
theorem BF{w:World}{a:Addr}{k:Nat}{cs:List Value}(h:w.cells? 0 a k=some cs):cs.length=k∧∀j (hj:j<cs.length),w.cell? (a.add j)=some cs[j]:=by
 unfold World.cells? at h
 rw[if_pos (Nat.zero_le _)]at h
 have hl:=mapM_some_length h
 rw[List.length_range]at hl
 refine⟨hl,fun j hj=>?_⟩
 have:=mapM_some_get h j j (by rw[List.getElem?_range (by omega)])
 rw[this]
 simp
section
variable {H:Type} {enc:TypeId×Value→H} {P:Program} {w:World}
theorem kK{g:TypeId→Option (List Sh)}:∀(fs:List Field) (off:Nat) (shs:List Sh) (cs:List Value),jS P g off fs=some shs→cs.length=off+shs.length→
  (∀f∈fs,∀l,g f.type=some l→∃ds,aX l ds∧AM w ds ((cs.drop f.offset).take (P.cellsOf f.type)))→∃ds,aX shs ds∧AM w ds (cs.drop off)
 |[],off,shs,cs,h,hl,_=>by
  simp only[jS]at h
  cases h
  refine⟨[],.nil,?_⟩
  rw[List.drop_of_length_le (by simp at hl;omega)]
  exact .nil
 |f::fs,off,shs,cs,h,hl,hf=>by
  simp only[jS]at h
  split at h
  ·rename_i ho
   split at h
   ·rename_i l hgl
    split at h
    ·rename_i hk
     obtain⟨rest,hr,rfl⟩:=Option.map_eq_some_iff.1 h
     simp only[List.length_append]at hl
     obtain⟨ds,h1,h2⟩:=hf f (by simp) l hgl
     obtain⟨es,h3,h4⟩:=kK fs (off+l.length) rest cs hr (by omega) fun f' hf'=>hf f' (by simp[hf'])
     refine⟨ds++es,h1.append h3,?_⟩
     rw[ho,←hk]at h2
     have:=h2.append h4
     rwa[←List.drop_drop,List.take_append_drop]at this
    ·cases h
   ·cases h
  ·cases h
theorem fP:∀{ds:List (DataW H)} {e:TypeId} {d:DataW H} {n:Nat},d∈ds→n∈d.weights P e→n∈DataW.weightsAll P e ds
 |d'::ds,e,d,n,hd,hn=>by
  simp only[DataW.weightsAll,List.mem_append]
  rcases List.mem_cons.1 hd with rfl|hd
  ·exact .inl hn
  ·exact .inr (fP hd hn)
theorem trod_good:∀(n:Nat) (t:TypeId) (shs:List Sh) (fuel:Nat) (cs:List Value) (x:DataW H×List MemPlace),pY P n t=some shs→DataW.trod enc P w 0 (fun _=>true) true fuel t cs=some x→
  (∀m∈x.1.weights P t,m≤reachBytes)→∃ds,aX shs ds∧AM w ds cs:=by
 intro n
 induction n with
 |zero=>intro t shs fuel cs x h;cases h
 |succ n ih=>
  intro t shs fuel cs x h hx hw
  unfold pY at h
  split at h
  ·rename_i hu
   cases h
   obtain⟨b,rfl,rfl⟩:=DataW.trod_bool hu hx
   exact⟨[.v (.bool b)],.cons (.bool b) .nil,.one (.v _ rfl)⟩
  ·rename_i k hu
   cases h
   obtain⟨m,rfl,rfl,hwf⟩:=DataW.trod_int hu hx
   exact⟨[.v (.int k m)],.cons (.int k m hwf) .nil,.one (.v _ rfl)⟩
  ·rename_i hu
   cases h
   obtain⟨s,rfl,rfl,hs⟩:=DataW.trod_string hu hx
   have:s.size≤reachBytes:=by
    have:=hw s.data.toList.length (by simp[DataW.weights])
    simpa using this
   exact⟨[.v (.string s)],.cons (.str s this) .nil,.one (.v _ rfl)⟩
  ·rename_i e hu
   split at h
   ·rename_i es hes
    split at h
    ·rename_i hk
     cases h
     rcases DataW.trod_slice hu hx with⟨rfl,rfl⟩|⟨a,len,cap,elems,rest,m,rfl,rfl,rfl,_,hlc,hcm,hel,hget,_,_⟩
     ·exact⟨[.list false []],.cons (.slice _ _ _ (by simp) (by simp) (by simp)) .nil,.one (.nil _ _ fun _=>rfl)⟩
     ·have key:∀i,i<len→∃y:List D,aX es y∧∀j (h1:j<y.length),∃c,w.cell? (a.add (i* es.length+j))=some c∧RD (Live w) w y[j] c:=by
       intro i hi
       have hg:=hget i hi
       rw[List.getElem?_eq_getElem (by omega)]at hg
       obtain⟨ci,hci,htr⟩:=Option.bind_eq_some_iff.1 hg
       obtain⟨hcl,hcell⟩:=BF hci
       obtain⟨ds,h1,h2⟩:=ih e es m ci _ hes htr fun q hq=>hw q (by
        simp only[DataW.weights,hu]
        refine List.mem_cons_of_mem _ (List.mem_append_left _ (fP (List.mem_map.2 ⟨_,List.getElem_mem (show i<elems.length by omega),rfl⟩) hq)))
       refine⟨ds,h1,fun j hj=>?_⟩
       have hjc:j<ci.length:=by rw[←h2.1];exact hj
       refine⟨ci[j],?_,h2.2 j hj hjc⟩
       rw[←hcell j hjc,add_add,hk]
      obtain⟨l,hll,hlp⟩:=nt _ len key
      refine⟨[.list false l],.cons (.slice _ _ _ ?_ (by omega) fun y hy=>?_) .nil,.one ?_⟩
      ·have:=hw ((elems.length+rest.length)* P.bytesOf e) (by simp[DataW.weights,hu])
       have h2:l.length* P.bytesOf e≤(elems.length+rest.length)* P.bytesOf e:=Nat.mul_le_mul_right _ (by omega)
       omega
      ·obtain⟨i,hi,rfl⟩:=List.mem_iff_getElem.1 hy
       exact(hlp i hi).1
      ·have hlen:l.length=len:=hll
       subst hlen
       have hw':∀i j,i<l.length→j<es.length→∃c,w.cell? (a.add (i* es.length+j))=some c:=by
        intro i j hi hj
        have:=(hlp i hi).1.len
        obtain⟨c,hc,_⟩:=(hlp i hi).2 j (by omega)
        exact⟨c,hc⟩
       refine .list false l a cap es.length (fun i j=>(w.cell? (a.add (i* es.length+j))).getD undef) hlc (fun y hy=>?_) (fun i j hi hj=>?_) fun i hi j hj=>?_
       ·obtain⟨i,hi,rfl⟩:=List.mem_iff_getElem.1 hy
        exact(hlp i hi).1.len
       ·obtain⟨c,hc⟩:=hw' i j hi hj
        exact⟨⟨c,hc⟩,by simp[hc]⟩
       ·obtain⟨c,hc,hd⟩:=(hlp i hi).2 j hj
        simpa[hc]using hd
    ·cases h
   ·cases h
  ·rename_i fs hu
   split at h
   ·rename_i l hl
    split at h
    ·rename_i hk
     cases h
     obtain⟨xs,m,rfl,rfl,hcl,hxl,hget⟩:=DataW.trod_struct hu hx
     have:=kK (w:=w) fs.toList 0 shs cs hl (by omega) fun f hf l' hl'=>by
      obtain⟨i,hi,rfl⟩:=List.mem_iff_getElem.1 hf
      have hi':i<fs.size:=by simpa using hi
      have hg:=hget i fs[i] (by simp[hi'])
      rw[List.getElem?_eq_getElem (by omega)]at hg
      refine ih _ l' m _ _ (by simpa using hl') (by simpa using hg) fun q hq=>hw q ?_
      simp only[DataW.weights,hu]
      refine DataW.weights_mem_each (j:=i) (t:=(fs.toList[i]).type) (d:=(xs[i]'(by omega)).1) ?_ ?_ q hq
      ·simp[hi']
      ·simp[show i<xs.length by omega]
     simpa using this
    ·cases h
   ·cases h
  ·rename_i m e hu
   split at h
   ·rename_i es hes
    split at h
    ·rename_i hk
     cases h
     cases fuel with
     |zero=>simp[DataW.trod]at hx
     |succ f=>
      unfold DataW.trod at hx
      rw[hu]at hx
      have hx':(if cs.length=P.cellsOf t then((List.range m).mapM fun i=>DataW.trod enc P w 0 (fun _=>true) true f e ((cs.drop (i* P.cellsOf e)).take (P.cellsOf e))).map fun xs=>(DataW.agg (xs.map (·.1)),xs.flatMap (·.2))else none)=some x:=by
       revert hx
       rcases cs with _|⟨c,_|⟨c',cs⟩⟩
       ·exact id
       ·cases c<;>exact id
       ·exact id
      split at hx'
      ·rename_i hcl
       obtain⟨xs,hxs,rfl⟩:=Option.map_eq_some_iff.1 hx'
       have hxl:=mapM_some_length hxs
       rw[List.length_range]at hxl
       have key:∀q,q≤m→∃ds,aX ((List.replicate q es).flatten) ds∧AM w ds (cs.take (q* es.length)):=by
        intro q
        induction q with
        |zero=>intro _;exact⟨[],by simpa using aX.nil,by simpa using AM.nil⟩
        |succ q ihq=>
         intro hq
         obtain⟨ds,h1,h2⟩:=ihq (by omega)
         have hg:=mapM_some_get hxs q q (by rw[List.getElem?_range (by omega)])
         rw[List.getElem?_eq_getElem (by omega)]at hg
         obtain⟨ds',h3,h4⟩:=ih e es f _ _ hes hg fun z hz=>hw z (by
          simp only[DataW.weights,hu]
          exact fP (List.mem_map.2 ⟨_,List.getElem_mem (show q<xs.length by omega),rfl⟩) hz)
         refine⟨ds++ds',?_,?_⟩
         ·rw[List.replicate_succ',List.flatten_append]
          simpa using h1.append h3
         ·have:=h2.append h4
          rw[←hk.1,←List.take_add]at this
          rwa[Nat.add_mul,Nat.one_mul]
       obtain⟨ds,h1,h2⟩:=key m (Nat.le_refl _)
       refine⟨ds,h1,?_⟩
       rwa[←hk.2,←hcl,List.take_length]at h2
      ·cases hx'
    ·cases h
   ·cases h
  ·cases h
def lL(P:Program)(t:TypeId)(x:AV):Prop:=(dr P t=some false∧∃sh d,pY P 9 t=some [sh]∧Fits sh d∧x= .d d)∨(dr P t=some true∧∃shs ds,pY P 9 t=some shs∧aX shs ds∧x= .agg (ds.map .d))
theorem Fq{t:TypeId}{v:Value}{d:DataW H}{ps:List MemPlace}{shs:List Sh}{b:Bool}(hs:pY P 9 t=some shs)(hg:dr P t=some b)(hval:Value.okWide P w .any 0 t v)(h:DataW.Trod enc P w 0 (fun _=>true) true t v d ps)
  (hw:∀m∈d.weights P t,m≤reachBytes):∃x,lL P t x∧RA [] (fun _=>none) (Live w) w x v:=by
 obtain⟨fuel,hf⟩:=h
 obtain⟨ds,h1,h2⟩:=trod_good 9 t shs fuel v.cells.toList _ hs hf hw
 unfold dr at hg
 obtain⟨desc,hd,hb⟩:=Option.map_eq_some_iff.1 hg
 have one:v.cells=#[v]→ds.length=1→b=false→∃x,lL P t x∧RA [] (fun _=>none) (Live w) w x v:=by
  intro hv hl hbf
  subst hbf
  have hl2:=h1.len
  match ds,hl,shs,hs,h1,h2 with
  |[d0],_,[sh],hs,.cons hd0 .nil,h2=>
   refine⟨.d d0,.inl ⟨by unfold dr;rw[hd];exact congrArg some hb,sh,d0,hs,hd0,rfl⟩,.d ?_⟩
   have:=h2.2 0 (by simp) (by simp[hv])
   simpa[hv]using this
 have agg:b=true→(∃cs,v= .agg cs)→∃x,lL P t x∧RA [] (fun _=>none) (Live w) w x v:=by
  intro hbt ⟨cs,hv⟩
  subst hbt hv
  refine⟨.agg (ds.map .d),.inr ⟨by unfold dr;rw[hd];exact congrArg some hb,shs,ds,hs,h1,rfl⟩,.agg _ _ (by simpa[Value.cells]using h2.1) fun i g1 g2=>?_⟩
  simp only[List.getElem_map]
  have:=h2.2 i (by simpa using g1) (by simpa[Value.cells]using g2)
  exact .d (by simpa[Value.cells]using this)
 have len1:v.cells=#[v]→ds.length=1:=fun hv=>by rw[h2.1,hv];rfl
 unfold pY at hs
 rw[hd]at hs
 cases desc with
 |bool=>obtain⟨q,rfl⟩:=okWide_bool hd hval;exact one rfl (len1 rfl) hb.symm
 |int k=>obtain⟨q,rfl⟩:=okWide_int hd hval;exact one rfl (len1 rfl) hb.symm
 |string=>obtain⟨q,rfl⟩:=okWide_string hd hval;exact one rfl (len1 rfl) hb.symm
 |slice e=>obtain⟨q,l,c,rfl⟩:=okWide_slice hd hval;exact one rfl (len1 rfl) hb.symm
 |struct fs=>obtain⟨cs,rfl,_⟩:=okWide_struct hd hval;exact agg hb.symm ⟨cs,rfl⟩
 |array m e=>
  have hval':=hval
  unfold Value.okWide at hval'
  rw[hd]at hval'
  obtain⟨cs,rfl,_⟩:=hval'
  exact agg hb.symm ⟨cs,rfl⟩
 |_=>simp at hs
theorem arg_in'{t:TypeId}{v:Value}{d:DataW H}{ps:List MemPlace}(hs:(pY P 9 t).isSome=true)(hg:(dr P t).isSome=true)(hval:Value.okWide P w .any 0 t v)(h:DataW.Trod enc P w 0 (fun _=>true) true t v d ps)
  (hw:∀m∈d.weights P t,m≤reachBytes):∃x,lL P t x∧RA [] (fun _=>none) (Live w) w x v:=by
 obtain⟨shs,hs⟩:=Option.isSome_iff_exists.1 hs
 obtain⟨b,hg⟩:=Option.isSome_iff_exists.1 hg
 exact Fq hs hg hval h hw
end
inductive RAL (H:aa) (φ:aK) (N:Addr→Prop) (w:World):List AV→List Value→Prop
 |nil:RAL H φ N w [] []
 |cons {x:AV} {v:Value} {xs:List AV} {vs:List Value} (h:RA H φ N w x v) (t:RAL H φ N w xs vs):RAL H φ N w (x::xs) (v::vs)
theorem RAL.to{H:aa}{φ:aK}{N:Addr→Prop}{w:World}:∀{xs:List AV} {vs:List Value},RAL H φ N w xs vs→xs.length=vs.length∧∀i (h1:i<xs.length) (h2:i<vs.length),RA H φ N w (xs[i]) (vs[i])
 |_,_,.nil=>⟨rfl,fun i h=>by simp at h⟩
 |_,_,.cons h t=>⟨by simp[t.to.1],fun i h1 h2=>by
  cases i with
  |zero=>exact h
  |succ i=>simpa using t.to.2 i (by simpa using h1) (by simpa using h2)⟩
theorem RAL.ras{H:aa}{φ:aK}{N:Addr→Prop}{w:World}{xs:List AV}{vs:List Value}(h:RAL H φ N w xs vs):p8 H φ N w xs vs.toArray:=⟨by simpa using h.to.1,fun i h1 h2=>by simpa using h.to.2 i h1 (by simpa using h2)⟩
end Go.Proofs.YtggohfhfocgilaaGreatAw
namespace Go.Proofs.YtggohfhfocgilaaGreat.K
open Go.Proofs.YtggohfhfocgilaaGreatAw
theorem KZ:dx Tryz.prog 3=true:=by kernel_rfl
theorem La:dx Tryz.prog 4=true:=by kernel_rfl
theorem Lh:dx Tryz.prog 5=true:=by kernel_rfl
theorem Kl:dx Tryz.prog 23=true:=by kernel_rfl
theorem Ku:dx Tryz.prog 32=true:=by kernel_rfl
theorem Kz:dx Tryz.prog 36=true:=by kernel_rfl
theorem Kf:dx Tryz.prog 40=true:=by kernel_rfl
theorem Kx:dx Tryz.prog 45=true:=by kernel_rfl
theorem J2:dx Tryz.prog 57=true:=by kernel_rfl
theorem Kc:dx Tryz.prog 62=true:=by kernel_rfl
theorem JM:dx Tryz.prog 68=true:=by kernel_rfl
theorem KG:dx Tryz.prog 96=true:=by kernel_rfl
theorem Hv:dx Tryz.prog 100=true:=by kernel_rfl
theorem I3:dx Tryz.prog 102=true:=by kernel_rfl
theorem Ij:dx Tryz.prog 109=true:=by kernel_rfl
theorem IC:dx Tryz.prog 110=true:=by kernel_rfl
theorem IE:dx Tryz.prog 111=true:=by kernel_rfl
theorem H9:dx Tryz.prog 113=true:=by kernel_rfl
theorem I4:dx Tryz.prog 114=true:=by kernel_rfl
theorem IG:dx Tryz.prog 115=true:=by kernel_rfl
theorem IB:dx Tryz.prog 118=true:=by kernel_rfl
theorem HW:dx Tryz.prog 120=true:=by kernel_rfl
theorem IV:dx Tryz.prog 123=true:=by kernel_rfl
theorem ID:dx Tryz.prog 124=true:=by kernel_rfl
theorem Iv:dx Tryz.prog 132=true:=by kernel_rfl
theorem Iw:dx Tryz.prog 136=true:=by kernel_rfl
theorem HV:dx Tryz.prog 173=true:=by kernel_rfl
theorem Jn:dx Tryz.prog 223=true:=by kernel_rfl
theorem Jg:fq Tryz.prog 235=true:=by kernel_rfl
theorem HS:dx Tryz.prog 267=true:=by kernel_rfl
theorem HM:dx Tryz.prog 287=true:=by kernel_rfl
attribute [go_sem] KZ La Lh Kl Ku Kz Kf Kx J2 Kc JM KG Hv I3 Ij IC IE H9 I4 IG IB HW IV ID Iv Iw HV Jn Jg HS HM
end Go.Proofs.YtggohfhfocgilaaGreat.K
namespace Go.Proofs.YtggohfhfocgilaaGreatAw
open Go.RowKit
section
variable {P:Program} {hint:Nat→Bool} {s:Nat→AV} {H:aa}
theorem H7{A B C D E F G G':Prop}(g:G→G'):(A∧B∧C∧D∧E∧F∧G)→(A∧B∧C∧D∧E∧F∧G'):=fun⟨a,b,c,d,e,f,h⟩=>⟨a,b,c,d,e,f,g h⟩
theorem J0{A B C D E G G':Prop}(g:G→G'):(A∧B∧C∧D∧E∧G)→(A∧B∧C∧D∧E∧G'):=fun⟨a,b,c,d,e,h⟩=>⟨a,b,c,d,e,g h⟩
theorem zS{op:BinOp}{t:TypeId}{u v:Value}{K K':Value→Prop}(hk:∀r,K r→K' r)(h:cw P op t u v K):cw P op t u v K':=by
 unfold cw at h⊢
 repeat' (split at h)
 all_goals first|exact h.elim|exact hk _ h|exact⟨h.1,hk _ h.2⟩|exact⟨h.1,h.2.1,hk _ h.2.2⟩|(obtain⟨r,h1,h2⟩:=h;first|exact⟨r,h1,hk _ h2⟩|(simp_all;done))
 all_goals exact⟨_,h.choose_spec.1,hk _ h.choose_spec.2⟩
theorem Cs{op:UnOp}{u:Value}{K K':Value→Prop}(hk:∀r,K r→K' r)(h:BO op u K):BO op u K':=by
 cases op<;>cases u<;>first|exact h.elim|exact hk _ h|exact⟨h.1,hk _ h.2⟩
theorem kI{b:Builtin}{args:List Operand}{tys:List TypeId}{K K':AV→aa→Prop}(hk:∀r H,K r H→K' r H)(h:b7 P s H b args tys K):b7 P s H b args tys K':=by
 unfold b7 at h⊢
 repeat' (split at h)
 all_goals first|exact h.elim|exact hk _ _ h|exact⟨h.1,hk _ _ h.2⟩|exact⟨h.1,h.2.1,hk _ _ h.2.2⟩|exact⟨h.1,h.2.1,h.2.2.1,hk _ _ h.2.2.2⟩|exact J0 (hk _ _) h|exact H7 (hk _ _) h|(simp_all;done)
theorem tE{k:Nat}{lo:Option Int}{hi:Nat→Option Int}{x:AV}{K K':AV→aa→Prop}(hk:∀r H,K r H→K' r H)(h:cY H k lo hi K x):cY H k lo hi K' x:=by
 cases x with
 |d u=>
  cases u with
  |v _=>exact h.elim
  |list nn es=>
   simp only[cY]at h⊢
   refine⟨h.1,?_⟩
   replace h:=h.2
   cases lo with
   |none=>exact h
   |some l=>
    cases hq:hi es.length with
    |none=>rw[hq]at h;exact h
    |some m=>rw[hq]at h;exact⟨h.1,h.2.1,h.2.2.1,hk _ _ h.2.2.2⟩
 |sl id ver off len=>
  simp only[cY]at h⊢
  cases ho:H[id]? with
  |none=>rw[ho]at h;exact h.elim
  |some o=>
   rw[ho]at h
   cases lo with
   |none=>exact h.elim
   |some l=>
    cases hq:hi len with
    |none=>rw[hq]at h;exact h.elim
    |some m=>rw[hq]at h;exact⟨h.1,h.2.1,h.2.2.1,h.2.2.2.1,h.2.2.2.2.1,hk _ _ h.2.2.2.2.2⟩
 |_=>exact h.elim
theorem sN{k:Nat}{lo hi mx:Option Int}{x:AV}{K K':AV→aa→Prop}(hk:∀r H,K r H→K' r H)(h:eR H k lo hi mx K x):eR H k lo hi mx K' x:=by
 cases x with
 |d u=>
  cases u with
  |v _=>exact h.elim
  |list nn es=>cases lo<;>cases hi<;>cases mx<;>first|exact h.2.elim|exact⟨h.1,h.2.1,h.2.2.1,h.2.2.2.1,h.2.2.2.2.1,hk _ _ h.2.2.2.2.2⟩
 |_=>exact h.elim
theorem tz{t:TypeId}{ok:Bool}{v:Option Value}{K K':AV→aa→Prop}(hk:∀r H,K r H→K' r H)(h:fD P t ok H K v):fD P t ok H K' v:=by
 unfold fD at h⊢
 cases e:l6 P t ok v with
 |none=>rw[e]at h;exact h.2.elim
 |some r=>rw[e]at h;exact⟨h.1,hk _ _ h.2⟩
theorem A8{n:Nat}{x:AV}{K K':AV→aa→Prop}(hk:∀r H,K r H→K' r H)(h:wX H n K x):wX H n K' x:=by
 cases x with
 |cc ds=>exact⟨h.1,hk _ _ h.2⟩
 |_=>exact h.elim
theorem vM{hi:Bool}{op:Op}{K K':AV→aa→Prop}(hk:∀r H,K r H→K' r H)(h:gJ P s H hi op K):gJ P s H hi op K':=by
 unfold gJ at h⊢
 repeat' (split at h)
 all_goals first|exact h.elim|(rw[if_pos (by assumption)];obtain⟨h1,id,e',h2,h3⟩:=h;exact⟨h1,id,e',h2,hk _ _ h3⟩)|(rw[if_neg (by assumption)];exact⟨h.1,hk _ _ h.2⟩)|exact hk _ _ h|exact⟨h.1,hk _ _ h.2⟩|exact⟨h.1,h.2.1,hk _ _ h.2.2⟩|exact⟨h.1,h.2.1,h.2.2.1,hk _ _ h.2.2.2⟩|exact H7 (hk _ _) h|exact zS (fun r=>hk _ _) h|exact Cs (fun r=>hk _ _) h|exact kI hk h|exact tE hk h|exact⟨h.1,h.2.1,A8 hk h.2.2⟩|exact sN hk h|exact tz hk h|exact⟨h.1,fun g=>hk _ _ (h.2.1 g),fun j e g1 g2=>hk _ _ (h.2.2 j e g1 g2)⟩|skip
 all_goals first|(rw[if_neg (by assumption)];exact⟨h.1,by first|(rw[if_pos (by assumption)];exact hk _ _ h.2)|(rw[if_neg (by assumption)];exact hk _ _ h.2)⟩)|(simp_all;done)
theorem pI{o:Oper}{K K':AV→aa→Prop}{KP KP':Value→aa→Prop}(hk:∀r H,K r H→K' r H)(hp:∀r H,KP r H→KP' r H)(h:aB P hint s H o K KP):aB P hint s H o K' KP':=by
 unfold aB at h⊢
 split at h
 ·split at h
  ·exact hp _ _ h
  ·exact h.elim
 ·split at h
  ·split at h
   ·obtain⟨res,H',hd,h⟩:=h
    refine⟨res,H',hd,?_⟩
    cases res with
    |ok r=>exact hk _ _ h
    |panic v=>exact hp _ _ h
   ·obtain⟨hy,R,hR,h⟩:=h
    exact⟨hy,R,hR,fun b H' hb=>hk _ _ (h b H' hb)⟩
   ·exact h.elim
  ·exact kI hk h
  ·exact h.elim
 ·exact vM hk h
theorem jf{n:Nat}{ops:Array Oper}{Q Q':aQ}{o:Oper}{K K':(Nat→AV)→aa→Prop}(hq:∀v s H,Q (.panic v) s H→Q' (.panic v) s H)(hk:∀s H,K s H→K' s H)(h:cN P hint n ops Q o K s H):cN P hint n ops Q' o K' s H:=by
 unfold cN at h⊢
 split at h
 ·exact pI (fun r H=>hk _ _) (fun v H=>hq _ _ _) h
 ·split at h
  ·split at h
   ·rw[if_pos (by assumption)]
    exact pI (fun r H=>hk _ _) (fun v H=>hq _ _ _) h
   ·rw[if_neg (by assumption)]
    exact hk _ _ h
  ·exact h.elim
theorem mm{n:Nat}{ops:Array Oper}{Q Q':aQ}(hq:∀e s H,Q e s H→Q' e s H):∀(l:List Oper) (s:Nat→AV) (H:aa),aN P hint n ops Q l s H→aN P hint n ops Q' l s H
 |[],s,H,h=>hq _ _ _ h
 |o::rest,s,H,h=>jf (fun v=>hq _) (fun s H=>mm hq rest s H) h
theorem j5{n:Nat}{ops:Array Oper}{Q Q':aQ}(hq:∀e s H,Q e s H→Q' e s H):∀(fuel:Nat) (l:Array Bool) (s:Nat→AV) (H:aa),fu P hint n ops Q fuel l s H→fu P hint n ops Q' fuel l s H
 |0,l,s,H,h=>⟨h.1,hq _ _ _ h.2⟩
 |fuel+1,l,s,H,h=>by
  refine⟨fun hr=>hq _ _ _ (h.1 hr),fun i hi=>?_⟩
  have:=h.2 i hi
  split at this
  ·exact j5 hq fuel _ _ _ this
  ·exact jf (fun v=>hq _) (fun s H=>j5 hq fuel _ s H) this
theorem iw{n:Nat}{H0:aa}:∀(c:Code) {Q Q':aQ} (hq:∀e s H,Q e s H→Q' e s H) (s:Nat→AV) (H:aa),cE P hint n H0 c Q s H→cE P hint n H0 c Q' s H:=by
 intro c
 induction c with
 |skip=>exact fun hq s H h=>hq _ _ _ h
 |label l=>exact fun hq s H h=>hq _ _ _ h
 |scope x ih=>exact fun hq s H h=>ih hq s H h
 |region id ops draw=>
  intro Q Q' hq s H h
  cases draw with
  |false=>exact mm hq _ _ _ h
  |true=>exact⟨h.1,j5 hq _ _ _ _ h.2⟩
 |seq x y ihx ihy=>
  intro Q Q' hq s H h
  refine ihx (fun e s H h=>?_) s H h
  cases e with
  |normal=>
   have h:if dz hint y=true then ∃s'' H'',ak H0 s H s'' H''∧cE P hint n H0 y Q s'' H'' else cE P hint n H0 y Q s H:=h
   show if dz hint y=true then ∃s'' H'',ak H0 s H s'' H''∧cE P hint n H0 y Q' s'' H'' else cE P hint n H0 y Q' s H
   split at h
   ·rw[if_pos (by assumption)]
    obtain⟨s'',H'',hW,h⟩:=h
    exact⟨s'',H'',hW,ihy hq s'' H'' h⟩
   ·rw[if_neg (by assumption)]
    exact ihy hq s H h
  |_=>exact hq _ _ _ h
 |cond c x y ihx ihy=>
  intro Q Q' hq s H h
  unfold cE at h⊢
  split at h
  ·split at h
   ·rw[if_pos (by assumption)];exact ihx hq s H h
   ·rw[if_neg (by assumption)];exact ihy hq s H h
  ·exact h.elim
 |block id x ih=>
  intro Q Q' hq s H h
  refine ih (fun e s H h=>?_) s H h
  cases e with
  |exit i=>
   show if i=id then Q' .normal s H else Q' (.exit i) s H
   have h:if i=id then Q .normal s H else Q (.exit i) s H:=h
   split at h
   ·rw[if_pos (by assumption)];exact hq _ _ _ h
   ·rw[if_neg (by assumption)];exact hq _ _ _ h
  |_=>exact hq _ _ _ h
 |loop x ih=>
  intro Q Q' hq s H h
  obtain⟨I,m,h1,h2⟩:=h
  refine⟨I,m,h1,fun m s H hI=>ih (fun e s H h=>?_) s H (h2 m s H hI)⟩
  cases e with
  |normal=>exact h
  |_=>exact hq _ _ _ h
 |exit id=>exact fun hq s H h=>hq _ _ _ h
 |ret=>exact fun hq s H h=>hq _ _ _ h
 |rangeFunc g ps x y=>
  intro Q Q' hq s H h
  obtain⟨hm,hint',gf,caps,xs,C,I,Ix,s0,H1,g1,g2,g3,g4,g5,g6,g7,g8,g9,g10⟩:=h
  exact⟨hm,hint',gf,caps,xs,C,I,Ix,s0,H1,g1,g2,g3,g4,g5,g6,g7,g8,fun Hn h=>hq _ _ _ (g9 Hn h),fun e Hx h=>hq _ _ _ (g10 e Hx h)⟩
 |_=>intros;rename_i h;exact h.elim
end
section
variable (P:Program) (hint:Nat→Bool) (n:Nat) (H0:aa)
def oo(c:Operand)(b:Bool)(R:(Nat→AV)→aa→Prop):aQ:=fun e s H=>match e with| .normal=>ah s c= .d (.v (.bool b))∧R s H|_=>False
theorem tu(c:Operand)(b:Bool)(R:(Nat→AV)→aa→Prop)(s:Nat→AV)(H:aa):oo c b R .normal s H=(ah s c= .d (.v (.bool b))∧R s H):=rfl
def po(pR:Code)(b b':Nat)(R:(Nat→AV)→aa→Prop)(Q:aQ):aQ:=fun e s H=>match e with
 | .normal=>j1 P hint n H0 pR (fj R (cZ b Q)) .normal s H
 | .exit i=>if i=b' then j1 P hint n H0 pR (fj R (cZ b Q)) .normal s H else cZ b Q (.exit i) s H
 |e=>Q e s H
theorem tA(pR:Code)(b b':Nat)(R:(Nat→AV)→aa→Prop)(Q:aQ)(s:Nat→AV)(H:aa):po P hint n H0 pR b b' R Q .normal s H=j1 P hint n H0 pR (fj R (cZ b Q)) .normal s H:=rfl
theorem oL(pR:Code)(b b':Nat)(R:(Nat→AV)→aa→Prop)(Q:aQ)(i:Nat)(s:Nat→AV)(H:aa):po P hint n H0 pR b b' R Q (.exit i) s H=if i=b' then j1 P hint n H0 pR (fj R (cZ b Q)) .normal s H else cZ b Q (.exit i) s H:=rfl
theorem Bs(pR:Code)(b b':Nat)(R:(Nat→AV)→aa→Prop)(Q:aQ)(s:Nat→AV)(H:aa):po P hint n H0 pR b b' R Q .ret s H=Q .ret s H:=rfl
end
attribute [go_sem] tu tA oL Bs
def lJ(x:Option Bool)(A B:Prop):Prop:=match x with|some true=>A|some false=>B|none=>False
theorem xw(A B:Prop):lJ (some true) A B=A:=rfl
theorem vw(A B:Prop):lJ (some false) A B=B:=rfl
theorem uk{x y:Option Bool}{A B:Prop}(h:nf x=y):lJ x A B=lJ y A B:=by rw[←h];rfl
theorem Du{P:Program}{hint:Nat→Bool}{n:Nat}{H0:aa}(c:Operand)(x y:Code)(Q:aQ)(s:Nat→AV)(H:aa):cE P hint n H0 (.cond c x y) Q s H=lJ (JL (ah s c)) (cE P hint n H0 x Q s H) (cE P hint n H0 y Q s H):=by
 rw[p5]
 generalize ah s c=v
 cases v with
 |d u=>
  cases u with
  |v z=>cases z<;>first|rfl|(rename_i b;cases b<;>rfl)
  |list _ _=>rfl
 |_=>rfl
theorem cT{x:Option Bool}{A B:Prop}(hc:x=some true)(h:A):lJ x A B:=by rw[hc];exact h
theorem cO{x:Option Bool}{A B:Prop}(hc:x=some false)(h:B):lJ x A B:=by rw[hc];exact h
attribute [go_sem] xw vw
def Cq:Option ay→Option (TypeId×Nat×Nat×List (List D))
 |some (.arr e k ver es)=>some (e,k,ver,es)
 |_=>none
theorem zO(e:TypeId)(k ver:Nat)(es:List (List D)):Cq (some (.arr e k ver es))=some (e,k,ver,es):=rfl
theorem Bv(H:aa)(e:TypeId)(k b:Nat)(news:List (List D))(K:AV→aa→Prop)(id ver len:Nat):kR H e k b news K (.sl id ver 0 len)=ob (Cq H[id]?) fun a=>
  (a.1=e∧a.2.1=k∧a.2.2.1=ver∧a.2.2.2.length=len)∧(a.2.2.2.length+news.length)* b≤140737488355328∧a.2.2.2.length+news.length≤9223372036854775807∧
    K (.sl id (ver+1) 0 (a.2.2.2.length+news.length)) (H.set id (.arr e k (ver+1) (a.2.2.2++news))):=by
 simp only[kR]
 rcases H[id]? with _|o
 ·rfl
 ·cases o<;>rfl
theorem CK(l:List Value)(n:Nat)(h:l.length=n):l.toArray.all Value.oneCell' 0 n=l.all Value.oneCell':=by subst h;simp
attribute [go_sem] CK Int.cast_ofNat_Int
theorem vE{P:Program}{t:TypeId}(a b:Bool)(K:Value→Prop)(h:P.underlying t=some .bool):cw P .neq t (.bool a) (.bool b) K=K (.bool (a !=b)):=by
 have hp:bN P .neq t (.bool a) (.bool b) (.bool (a !=b)):=fun x y w=>by
  have he:(Op.equal t (.bool a) (.bool b)).run P w= .ok (a==b) w:=run_equalIn_bool w 9999 t a b h
  simp only[binOp]
  simp[eqGuard,he]
  cases a<;>cases b<;>rfl
 have:cw P .neq t (.bool a) (.bool b) K=∃r,bN P .neq t (.bool a) (.bool b) r∧K r:=by unfold cw;rfl
 rw[this]
 refine propext ⟨fun⟨r,hr,k⟩=>?_,fun k=>⟨_,hp,k⟩⟩
 have h1:=hr (.const .nilIface) (.const .nilIface) default
 rw[hp (.const .nilIface) (.const .nilIface) default]at h1
 cases h1;exact k
theorem sR{P:Program}{t:TypeId}(k:FloatKind)(a b:Nat)(K:Value→Prop):cw P .neq t (.float k a) (.float k b) K=K (.bool (k.format.order a b !=some .eq)):=by
 have hp:bN P .neq t (.float k a) (.float k b) (.bool (k.format.order a b !=some .eq)):=fun x y w=>by
  simp[eqGuard,binOp,Op.floatCmp]
 have:cw P .neq t (.float k a) (.float k b) K=∃r,bN P .neq t (.float k a) (.float k b) r∧K r:=by unfold cw;rfl
 rw[this]
 refine propext ⟨fun⟨r,hr,k⟩=>?_,fun k=>⟨_,hp,k⟩⟩
 have h1:=hr (.const .nilIface) (.const .nilIface) default
 rw[hp (.const .nilIface) (.const .nilIface) default]at h1
 cases h1;exact k
theorem isAny.get{P:Program}{t:TypeId}(h:isAny P t=true):∃ms,P.underlying t=some (.interface ms)∧ms.isEmpty=true:=by
 unfold isAny at h
 split at h
 ·rename_i ms hm;exact⟨ms,hm,h⟩
 ·cases h
attribute [go_sem] vE sR
theorem wV(P:Program)(t:TypeId):gW P t (.d (.v (.slice none 0 0)))=(SE P t).isSome:=rfl
theorem xU(P:Program)(t:TypeId):gW P t (.d (.v (.pointer none)))=fq P t:=rfl
theorem vU(P:Program)(t:TypeId)(nn:Bool)(es:List (List D)):gW P t (.d (.list nn es))=false:=rfl
theorem C5(P:Program)(t:TypeId)(a b c d:Nat):gW P t (.ptr a b c d)=false:=rfl
theorem yS(P:Program)(H:aa)(t:TypeId)(nn:Bool)(es:List (List D)):known P H t (.d (.list nn es))=((SE P t).isSome&&(nn|| !es.isEmpty)):=rfl
theorem AO(P:Program)(H:aa)(t:TypeId)(id ver i j:Nat):known P H t (.ptr id ver i j)=(fq P t&&(match H[id]? with|some o=>o.ver==ver|none=>false)):=rfl
theorem EV(P:Program)(H:aa)(t:TypeId)(x:Value):known P H t (.d (.v x))=false:=by cases x<;>rfl
theorem yk(P:Program)(H:aa)(t:TypeId)(x y:AV):lg P H .eql t x y=((gW P t y&&known P H t x)||(gW P t x&&known P H t y)):=by simp[lg]
theorem Ab:ox .eql=false:=rfl
attribute [go_sem] wV xU vU C5 yS AO EV yk Ab Option.isSome_some Option.isSome_none Bool.or_false Bool.false_or Bool.or_true Bool.true_or List.isEmpty_cons
theorem p7(a b:Int):(a==b)=decide (a=b):=by by_cases h:a=b<;>simp[h]
theorem pj(a b:Int):(a !=b)= !decide (a=b):=by by_cases h:a=b<;>simp[h]
attribute [go_sem] Int.natCast_add p7 pj List.all_map
theorem wu(H:aa)(k m:Nat):(H.length+k<H.length+m)=(k<m):=by simp
theorem DC(H:aa)(m:Nat):(H.length<H.length+m)=(0<m):=by simp
theorem Fa(H:aa)(m:Nat):(H.length+m<H.length)=False:=by simp
theorem Ao(m:Nat)(e:TypeId)(k ver:Nat)(es:List (List D)):(ay.arr e k ver es).below m=true:=rfl
theorem rk(m:Nat)(e:TypeId)(k ver n:Nat)(cs:List AV):(ay.box e k ver n cs).below m=cs.all (ga m):=rfl
theorem Cp(m:Nat)(kk:IntKind)(es:List (Int×AV)):(ay.mp kk es).below m=es.all fun e=>ga m e.2:=rfl
theorem mf(m:Nat)(x:D):ga m (.d x)=true:=rfl
theorem qQ(m id v i j:Nat):ga m (.sl id v i j)=decide (id<m):=rfl
theorem Au(m id:Nat):ga m (.mp id)=decide (id<m):=rfl
theorem Fx(H:aa)(m:Nat)(f:FuncId)(cs:List AV):pZ H m (.fn f cs)= .fn f (cs.map (lh H m)):=rfl
attribute [go_sem] Ao rk Cp mf qQ Au Fx wu DC Fa Nat.lt_irrefl decide_eq_true_eq
theorem Dr(H:aa)(k:Nat)(i:Int)(id ver off len:Nat):gu H k i (.sl id ver off len)=if 0≤i∧i<len then(H[id]?).bind fun ob=>if ob.ver=ver∧ob.k=k∧ob.live=true then some (.ptr id ver (off+i.toNat) 0)else none else none:=rfl
theorem EX(H:aa)(id ver off len:Nat):jy H (.sl id ver off len)=(Cq H[id]?).bind fun a=>if a.2.2.1=ver then some ((a.2.2.2.drop off).take len)else none:=by
 simp only[jy]
 rcases H[id]? with _|o
 ·rfl
 ·cases o<;>rfl
attribute [go_sem] Dr EX xM BI
attribute [go_sem] zO Bv
section
variable {P:Program} {hint:Nat→Bool} {n:Nat} {H0:aa}
theorem aU{b b':Nat}{cR pR body:Code}{c:Operand}(I:Nat→(Nat→AV)→aa→Prop)(m:Nat){Q:aQ}{s s':Nat→AV}{H H':aa}(hm:m≤9223372036854775807)(hW:ak H0 s H s' H')(h0:I 0 s' H')
  (step:∀k s H,k<m→IntKind.i64.wrap ((k:Int)+1)=(k:Int)+1→I k s H→cE P hint n H0 cR (oo c true fun s H=>cE P hint n H0 body (po P hint n H0 pR b b' (fun s' H'=>∃s'' H'',ak H0 s' H' s'' H''∧I (k+1) s'' H'') Q) s H) s H)
  (done:∀s H,I m s H→cE P hint n H0 cR (oo c false fun s H=>Q .normal s H) s H):
  cE P hint n H0 (.loop (.seq cR (.seq (.cond c .skip (.exit b)) (.seq (.block b' body) pR)))) (cZ b Q) s H:=by
 refine bu P hint n H0 (fun k s H=>k≤m∧I k s H) (fun k=>m-k) 0 hW ⟨Nat.zero_le _,h0⟩ ?_
 rintro k s H ⟨hk,hI⟩
 rw[dS]
 by_cases hlt:k<m
 ·refine iw cR (fun e s H h=>?_) s H (step k s H hlt (wrap64_in _ (by omega) (by omega)) hI)
  cases e with
  |normal=>
   obtain⟨hc,h⟩:=h
   simp only[cU,dS]
   rw[p5,hc]
   simp only[if_true,vS,cU,dS,qT]
   refine iw body (fun e s H h=>?_) s H h
   have fin:j1 P hint n H0 pR (fj (fun s' H'=>∃s'' H'',ak H0 s' H' s'' H''∧I (k+1) s'' H'') (cZ b Q)) .normal s H→
     j1 P hint n H0 pR (fj (fun s' H'=>∃s'' H'' y,ak H0 s' H' s'' H''∧(y≤m∧I y s'' H'')∧m-y<m-k) (cZ b Q)) .normal s H:=by
    have mon:∀s H,cE P hint n H0 pR (fj (fun s' H'=>∃s'' H'',ak H0 s' H' s'' H''∧I (k+1) s'' H'') (cZ b Q)) s H→
      cE P hint n H0 pR (fj (fun s' H'=>∃s'' H'' y,ak H0 s' H' s'' H''∧(y≤m∧I y s'' H'')∧m-y<m-k) (cZ b Q)) s H:=by
     refine fun s H=>iw pR (fun e s H h=>?_) s H
     cases e with
     |normal=>
      obtain⟨s'',H'',h1,h2⟩:=h
      exact⟨s'',H'',k+1,h1,⟨hlt,h2⟩,by omega⟩
     |_=>exact h
    rw[cU,cU]
    cases dz hint pR with
    |true=>exact fun⟨s2,H2,h1,h2⟩=>⟨s2,H2,h1,mon _ _ h2⟩
    |false=>exact mon s H
   cases e with
   |normal=>exact fin h
   |exit i=>
    rw[oL]at h
    rw[gI]
    by_cases hi:i=b'
    ·rw[if_pos hi]at h⊢;exact fin h
    ·rw[if_neg hi]at h⊢;exact h
   |ret=>exact h
   |panic v=>exact h
  |_=>exact h.elim
 ·obtain rfl:k=m:=by omega
  refine iw cR (fun e s H h=>?_) s H (done s H hI)
  cases e with
  |normal=>
   obtain⟨hc,h⟩:=h
   simp only[cU,dS]
   rw[p5,hc]
   simp only[Bool.false_eq_true,if_false,vB,rD]
   show cZ b Q (.exit b) s H
   rw[gI,if_pos rfl]
   exact h
  |_=>exact h.elim
theorem zN(x y z:Code)(Q:aQ)(s:Nat→AV)(H:aa):cE P hint n H0 (.seq (.seq x y) z) Q s H=cE P hint n H0 (.seq x (.seq y z)) Q s H:=by
 simp only[dS]
 congr 1
 funext e s H
 cases e<;>rfl
theorem oK{x y:Code}(h:∀Q s H,cE P hint n H0 x Q s H=cE P hint n H0 y Q s H)(Q:aQ)(s:Nat→AV)(H:aa):cE P hint n H0 (.loop x) Q s H=cE P hint n H0 (.loop y) Q s H:=by
 unfold cE
 simp only[h]
theorem aA{b b':Nat}{cR pR body:Code}{c:Operand}(I:Nat→(Nat→AV)→aa→Prop)(m:Nat){Q:aQ}{s s':Nat→AV}{H H':aa}(hm:m≤9223372036854775807)(hW:ak H0 s H s' H')(h0:I 0 s' H')
  (step:∀k s H,k<m→IntKind.i64.wrap ((k:Int)+1)=(k:Int)+1→I k s H→cE P hint n H0 cR (oo c true fun s H=>cE P hint n H0 body (po P hint n H0 pR b b' (fun s' H'=>∃s'' H'',ak H0 s' H' s'' H''∧I (k+1) s'' H'') Q) s H) s H)
  (done:∀s H,I m s H→cE P hint n H0 cR (oo c false fun s H=>Q .normal s H) s H):
  cE P hint n H0 (.loop (.seq (.seq cR (.cond c .skip (.exit b))) (.seq (.block b' body) pR))) (cZ b Q) s H:=by
 rw[oK fun Q s H=>zN cR (.cond c .skip (.exit b)) (.seq (.block b' body) pR) Q s H]
 exact aU I m hm hW h0 step done
theorem ak.cut(dC T:aa)(m:Nat)(hm:dC.length=m)(s:Nat→AV)(h:dC.all (ay.below (H0.length+m))=true):ak H0 s (H0++(dC++T)) (fun t=>pZ (H0++(dC++T)) (H0.length+m) (s t)) (H0++dC):=by
 subst hm
 have:=ak.uF (H0:=H0) s (H0++(dC++T)) (H0.length+dC.length) (by omega) (by simp) ?_
 ·rwa[show(H0++(dC++T)).take (H0.length+dC.length)=H0++dC from by rw[←List.append_assoc,←List.length_append,List.take_left]]at this
 ·intro i o hi ho
  rcases Nat.lt_or_ge i H0.length with h1|h1
  ·exact .inl (by rwa[List.getElem?_append_left h1]at ho)
  ·right
   rw[List.getElem?_append_right h1,List.getElem?_append_left (by omega)]at ho
   rw[List.all_eq_true]at h
   exact h o (List.mem_of_getElem? ho)
theorem cl.cut{I:(Nat→AV)→aa→Prop}{s:Nat→AV}{H:aa}(dC T:aa)(m:Nat)(hm:dC.length=m)(e:H=H0++(dC++T))(h:dC.all (ay.below (H0.length+m))=true)
  (hi:I (fun t=>pZ H (H0.length+m) (s t)) (H0++dC)):∃s'' H'',ak H0 s H s'' H''∧I s'' H'':=by
 subst e
 exact⟨_,_,ak.cut dC T m hm s h,hi⟩
theorem cl.same{I:(Nat→AV)→aa→Prop}{s:Nat→AV}{H:aa}(h:I s H):∃s'' H'',ak H0 s H s'' H''∧I s'' H'':=⟨s,H,.refl _ _,h⟩
end
mutual
inductive Sub:AV→AV→Prop
 |refl (x:AV):Sub x x
 |top (x:AV):Sub x .top
 |nil:Sub (.d (.v (.slice none 0 0))) (.d (.list false []))
 |di:Sub .di (.d (.list false []))
 |nn (es:List (List D)):Sub (.d (.list true es)) (.d (.list false es))
 |agg {cs cs':List AV} (h:lk cs cs'):Sub (.agg cs) (.agg cs')
 |KX {x y:D} (h:∀N w v,RD N w x v→RD N w y v):Sub (.d x) (.d y)
inductive lk:List AV→List AV→Prop
 |nil:lk [] []
 |cons {x y:AV} {xs ys:List AV} (h:Sub x y) (t:lk xs ys):lk (x::xs) (y::ys)
end
theorem lk.len:∀{cs cs':List AV},lk cs cs'→cs.length=cs'.length
 |_,_,.nil=>rfl
 |_,_,.cons _ t=>by simp[lk.len t]
mutual
theorem Sub.ra{H:aa}{φ:aK}{N:Addr→Prop}{w:World}:∀{x y:AV} {v:Value},Sub x y→RA H φ N w x v→RA H φ N w y v
 |_,_,_,.refl _,h=>h
 |_,_,_,.top _,_=> .top _
 |_,_,v,.nil,h=>by rw[h.closed];exact .d (.nil _ _ fun _=>rfl)
 |_,_,_,.di,h=>by cases h with|di A=>exact .d (.nil _ _ fun _=>rfl)
 |_,_,_,.nn es,h=>by
  cases h with
  |d h=>
   cases h with
   |list nn es ad cap k c hc hk h hd=>exact .d (.list false es ad cap k c hc hk h hd)
 |_,_,_,.KX hs,h=>by
  cases h with
  |d h=>exact .d (hs _ _ _ h)
 |_,_,_,.agg hs,h=>by
  cases h with
  |agg cs vs hl hh=>exact .agg _ vs (hs.len.symm.trans hl) fun i h1 h2=>lk.ra hs i (by rw[hs.len];exact h1) h1 (hh i (by rw[hs.len];exact h1) h2)
theorem lk.ra{H:aa}{φ:aK}{N:Addr→Prop}{w:World}:∀{cs cs':List AV},lk cs cs'→∀(i:Nat) (h1:i<cs.length) (h2:i<cs'.length) {v:Value},RA H φ N w (cs[i]) v→RA H φ N w (cs'[i]) v
 |_,_,.nil,i,h1,_,_,_=>by simp at h1
 |_,_,.cons h t,0,_,_,_,g=>Sub.ra h g
 |_,_,.cons h t,i+1,h1,h2,v,g=>by
  simp only[List.getElem_cons_succ]at g⊢
  exact lk.ra t i _ _ g
end
theorem ag.sub{P:Program}{f:FuncId}{args args':List AV}{H H':aa}{res:mv}(hs:lk args args')(h:ag P f args' H res H'):ag P f args H res H':=
 fun φ N w vals hR hA=>h φ N w vals hR ⟨hs.len.symm.trans hA.1,fun i h1 h2=>hs.ra i (by rw[hs.len];exact h1) h1 (hA.2 i (by rw[hs.len];exact h1) h2)⟩
theorem ae.sub{P:Program}{f:FuncId}{args args':List AV}{H H':aa}{K:AV→aa→Prop}{KP:Value→aa→Prop}{r:AV}(hs:lk args args')(h:ag P f args' H (.ok r) H')(hk:K r H'):ae P f args H K KP:=ae.ok (h.sub hs) hk
attribute [go_sem] Du
attribute [congr] Dg xx wG A9 uk
section
variable {P:Program} {hint:Nat→Bool} {n:Nat} {H0 H H':aa} {s:Nat→AV} {Q:aQ} {ops:Array Oper}
@[congr] theorem J6 {c:Code} (h:nf H=H'):cE P hint n H0 c Q s H=cE P hint n H0 c Q s H':=by rw[←h];rfl
@[congr] theorem Js {l:List Oper} (h:nf H=H'):aN P hint n ops Q l s H=aN P hint n ops Q l s H':=by rw[←h];rfl
@[congr] theorem Ju {o:Oper} {K:AV→aa→Prop} {KP:Value→aa→Prop} (h:nf H=H'):aB P hint s H o K KP=aB P hint s H' o K KP:=by rw[←h];rfl
@[congr] theorem JN {rest:List Oper} {d:Option Tmp} {r r':AV} (g:nf r=r') (h:nf H=H'):IU P hint n ops Q rest s d r H=IU P hint n ops Q rest s d r' H':=by rw[←g,←h];rfl
@[congr] theorem JF {v:Value} (h:nf H=H'):ES Q s v H=ES Q s v H':=by rw[←h];rfl
@[congr] theorem JE {c:Code} {e:AX} (h:nf H=H'):j1 P hint n H0 c Q e s H=j1 P hint n H0 c Q e s H':=by rw[←h];rfl
@[congr] theorem G4 {i:Nat} {e:AX} (h:nf H=H'):cZ i Q e s H=cZ i Q e s H':=by rw[←h];rfl
@[congr] theorem Ja {R:(Nat→AV)→aa→Prop} {e:AX} (h:nf H=H'):fj R Q e s H=fj R Q e s H':=by rw[←h];rfl
@[congr] theorem HL {c:Operand} {b:Bool} {R:(Nat→AV)→aa→Prop} {e:AX} (h:nf H=H'):oo c b R e s H=oo c b R e s H':=by rw[←h];rfl
@[congr] theorem Hz {pR:Code} {b b':Nat} {R:(Nat→AV)→aa→Prop} {e:AX} (h:nf H=H'):po P hint n H0 pR b b' R Q e s H=po P hint n H0 pR b b' R Q e s H':=by rw[←h];rfl
@[congr] theorem Jt {id:Nat} {args args':List AV} {K:AV→aa→Prop} (g:nf args=args') (h:nf H=H'):ql P id args H K=ql P id args' H' K:=by rw[←g,←h];rfl
@[congr] theorem Ip {f:FuncId} {args args':List AV} {K:AV→aa→Prop} {KP:Value→aa→Prop} (g:nf args=args') (h:nf H=H'):ae P f args H K KP=ae P f args' H' K KP:=by rw[←g,←h];rfl
@[congr] theorem JB {K:AV→aa→Prop} {r r':Value} (g:nf r=r') (h:nf H=H'):CE K H r=CE K H' r':=by rw[←g,←h];rfl
@[congr] theorem Jy {rs:List Tmp} {res:mv} {H1:aa} {e:AX} (h:nf H=H'):an rs H0 res H1 e s H=an rs H0 res H1 e s H':=by rw[←h];rfl
@[congr] theorem JD {d:Option Tmp} {v:AV} {t t':Nat} (h:nf t=t'):bp n s d v t=bp n s d v t':=by rw[←h];rfl
theorem xX(l:List Oper):aN P hint n ops Q l.toArray.toList s H=aN P hint n ops Q l s H:=rfl
@[congr] theorem Jw {op:BinOp} {t:TypeId} {u u' v v':Value} {K:Value→Prop} (g:nf u=u') (h:nf v=v'):cw P op t u v K=cw P op t u' v' K:=by rw[←g,←h];rfl
@[congr] theorem JW {op:UnOp} {u u':Value} {K:Value→Prop} (g:nf u=u'):BO op u K=BO op u' K:=by rw[←g];rfl
@[congr] theorem G5 {k:Nat} {lo lo':Option Int} {hi hi':Nat→Option Int} {K:AV→aa→Prop} {x x':AV} (f:nf lo=lo') (g:nf x=x') (h:nf H=H') (e:∀n,hi n=hi' n):cY H k lo hi K x=cY H' k lo' hi' K x':=by rw[←f,←g,←h,funext e];rfl
@[congr] theorem GX {k:Nat} {lo lo' hi hi' mx mx':Option Int} {K:AV→aa→Prop} {x x':AV} (f:nf lo=lo') (f2:nf hi=hi') (f3:nf mx=mx') (g:nf x=x') (h:nf H=H'):eR H k lo hi mx K x=eR H' k lo' hi' mx' K x':=by rw[←f,←f2,←f3,←g,←h];rfl
@[congr] theorem Gk {t:TypeId} {ok:Bool} {K:AV→aa→Prop} {v v':Option Value} (g:nf v=v') (h:nf H=H'):fD P t ok H K v=fD P t ok H' K v':=by rw[←g,←h];rfl
@[congr] theorem Hu {e:TypeId} {k b:Nat} {news news':List (List D)} {K:AV→aa→Prop} {x x':AV} (f:nf news=news') (g:nf x=x') (h:nf H=H'):kR H e k b news K x=kR H' e k b news' K x':=by rw[←f,←g,←h];rfl
end
attribute [go_sem] xX
section
variable {P:Program} {hint:Nat→Bool} {s s':Nat→AV} {H:aa}
theorem Dn{op:BinOp}{t:TypeId}{u v:Value}{K:Value→Prop}(h:cw P op t u v K):∃r,K r∧∀K',K' r→cw P op t u v K':=by
 unfold cw at h⊢
 repeat' (split at h)
 all_goals first|exact h.elim|exact⟨_,h,fun K' g=>g⟩|exact⟨_,h.2,fun K' g=>⟨h.1,g⟩⟩|exact⟨_,h.2.2,fun K' g=>⟨h.1,h.2.1,g⟩⟩|(obtain⟨r,h1,h2⟩:=h;first|exact⟨r,h2,fun K' g=>⟨r,h1,g⟩⟩|exact⟨r,h2,fun K' g=>by simp_all;exact⟨r,h1,g⟩⟩)
theorem DQ{op:UnOp}{u:Value}{K:Value→Prop}(h:BO op u K):∃r,K r∧∀K',K' r→BO op u K':=by
 cases op<;>cases u<;>first|exact h.elim|exact⟨_,h,fun K' g=>g⟩|exact⟨_,h.2,fun K' g=>⟨h.1,g⟩⟩
theorem lM{b:Builtin}{args:List Operand}{tys:List TypeId}{K:AV→aa→Prop}(h:b7 P s H b args tys K):∃r H',K r H'∧∀K',K' r H'→b7 P s H b args tys K':=by
 unfold b7 at h⊢
 repeat' (split at h)
 all_goals first|exact h.elim|(exact(show False from by first|exact h.2|exact h.2.2|exact h.2.2.2|exact h.2.2.2.2).elim)|exact⟨_,_,h,fun K' g=>g⟩|exact⟨_,_,h.2,fun K' g=>⟨h.1,g⟩⟩|exact⟨_,_,h.2.2,fun K' g=>⟨h.1,h.2.1,g⟩⟩|exact⟨_,_,h.2.2.2,fun K' g=>⟨h.1,h.2.1,h.2.2.1,g⟩⟩|exact⟨_,_,h.2.2.2.2.2,fun K' g=>⟨h.1,h.2.1,h.2.2.1,h.2.2.2.1,h.2.2.2.2.1,g⟩⟩|exact⟨_,_,h.2.2.2.2.2.2,fun K' g=>⟨h.1,h.2.1,h.2.2.1,h.2.2.2.1,h.2.2.2.2.1,h.2.2.2.2.2.1,g⟩⟩
theorem wD{k:Nat}{lo:Option Int}{hi:Nat→Option Int}{x:AV}{K:AV→aa→Prop}(h:cY H k lo hi K x):∃r H',K r H'∧∀K',K' r H'→cY H k lo hi K' x:=by
 cases x with
 |d u=>
  cases u with
  |v _=>exact h.elim
  |list nn es=>
   simp only[cY]at h⊢
   obtain⟨h0,h⟩:=h
   cases lo with
   |none=>exact h.elim
   |some l=>
    cases hq:hi es.length with
    |none=>rw[hq]at h;exact h.elim
    |some m=>rw[hq]at h;exact⟨_,_,h.2.2.2,fun K' g=>⟨h0,h.1,h.2.1,h.2.2.1,g⟩⟩
 |sl id ver off len=>
  simp only[cY]at h⊢
  cases ho:H[id]? with
  |none=>rw[ho]at h;exact h.elim
  |some o=>
   rw[ho]at h
   cases lo with
   |none=>exact h.elim
   |some l=>
    cases hq:hi len with
    |none=>rw[hq]at h;exact h.elim
    |some m=>rw[hq]at h;exact⟨_,_,h.2.2.2.2.2,fun K' g=>⟨h.1,h.2.1,h.2.2.1,h.2.2.2.1,h.2.2.2.2.1,g⟩⟩
 |_=>exact h.elim
theorem uS{k:Nat}{lo hi mx:Option Int}{x:AV}{K:AV→aa→Prop}(h:eR H k lo hi mx K x):∃r H',K r H'∧∀K',K' r H'→eR H k lo hi mx K' x:=by
 cases x with
 |d u=>
  cases u with
  |v _=>exact h.elim
  |list nn es=>cases lo<;>cases hi<;>cases mx<;>first|exact h.2.elim|exact⟨_,_,h.2.2.2.2.2,fun K' g=>⟨h.1,h.2.1,h.2.2.1,h.2.2.2.1,h.2.2.2.2.1,g⟩⟩
 |_=>exact h.elim
theorem uH{n:Nat}{x:AV}{K:AV→aa→Prop}(h:wX H n K x):∃r H',K r H'∧∀K',K' r H'→wX H n K' x:=by
 cases x with
 |cc ds=>exact⟨_,_,h.2,fun K' g=>⟨h.1,g⟩⟩
 |_=>exact h.elim
theorem uE{t:TypeId}{ok:Bool}{v:Option Value}{K:AV→aa→Prop}(h:fD P t ok H K v):∃r H',K r H'∧∀K',K' r H'→fD P t ok H K' v:=by
 unfold fD at h⊢
 cases e:l6 P t ok v with
 |none=>rw[e]at h;exact h.2.elim
 |some r=>rw[e]at h;exact⟨_,_,h.2,fun K' g=>⟨h.1,g⟩⟩
def jW(hint:Nat→Bool):Op→Bool
 | .next _ _=>false
 | .call c=>(match c.callee with| .value _=> !hint 3000000|_=>true)
 |_=>true
theorem EC{hi:Bool}{op:Op}{K:AV→aa→Prop}(hd:jW hint op=true)(h:gJ P s H hi op K):∃r H',K r H'∧∀K',K' r H'→gJ P s H hi op K':=by
 unfold gJ at h⊢
 repeat' (split at h)
 all_goals first|exact h.elim|(cases hd;done)|(obtain⟨h1,id,e',h2,h3⟩:=h;exact⟨_,_,h3,fun K' g=>by rw[if_pos (by assumption)];exact⟨h1,id,e',h2,g⟩⟩)|(exact⟨_,_,h.2,fun K' g=>by rw[if_neg (by assumption)];exact⟨h.1,g⟩⟩)|(obtain⟨h1,h2,h⟩:=h;obtain⟨r,H',g1,g2⟩:=uH h;exact⟨r,H',g1,fun K' g=>⟨h1,h2,g2 K' g⟩⟩)|(exact(show False from by first|exact h.2|exact h.2.2|exact h.2.2.2|exact h.2.2.2.2).elim)|exact⟨_,_,h,fun K' g=>g⟩|exact⟨_,_,h.2,fun K' g=>⟨h.1,g⟩⟩|exact⟨_,_,h.2.2,fun K' g=>⟨h.1,h.2.1,g⟩⟩|exact⟨_,_,h.2.2.2,fun K' g=>⟨h.1,h.2.1,h.2.2.1,g⟩⟩|exact⟨_,_,h.2.2.2.2.2.2,fun K' g=>⟨h.1,h.2.1,h.2.2.1,h.2.2.2.1,h.2.2.2.2.1,h.2.2.2.2.2.1,g⟩⟩|exact⟨_,_,h.2.2.2.2,fun K' g=>⟨h.1,h.2.1,h.2.2.1,h.2.2.2.1,g⟩⟩|exact lM h|
  (obtain⟨r,h1,h2⟩:=Dn h;exact⟨_,_,h1,fun K' g=>h2 _ g⟩)|(obtain⟨r,h1,h2⟩:=DQ h;exact⟨_,_,h1,fun K' g=>h2 _ g⟩)|exact wD h|exact uS h|exact uE h|(obtain⟨h1,h2,h⟩:=h;obtain⟨r,H',g1,g2⟩:=uH h;exact⟨r,H',g1,fun K' g=>⟨h1,h2,g2 K' g⟩⟩)|skip
 all_goals first|(exfalso;simp_all;done)|exact⟨_,_,h,fun K' g=>by rw[if_pos (by assumption)];exact g⟩|exact⟨_,_,h,fun K' g=>by rw[if_neg (by assumption)];exact g⟩|exact⟨_,_,h.2,fun K' g=>by rw[if_pos (by assumption)];exact⟨h.1,g⟩⟩|exact⟨_,_,h.2,fun K' g=>⟨h.1,by first|(rw[if_pos (by assumption)];exact g)|(rw[if_neg (by assumption)];exact g)⟩⟩|
  exact⟨_,_,h.2,fun K' g=>by rw[if_neg (by assumption)];exact⟨h.1,by first|(rw[if_pos (by assumption)];exact g)|(rw[if_neg (by assumption)];exact g)⟩⟩|trace_state
theorem eH{o:Oper}{K:AV→aa→Prop}(hdo:jW hint o.op=true)(h:aB P hint s H o K (fun _ _=>False)):∃r H',K r H'∧∀K' KP',K' r H'→aB P hint s H o K' KP':=by
 unfold aB at h⊢
 split at h
 ·split at h<;>exact h.elim
 ·split at h
  ·split at h
   ·obtain⟨res,H',hd,h⟩:=h
    cases res with
    |ok r=>exact⟨r,H',h,fun K' KP' g=>⟨.ok r,H',hd,g⟩⟩
    |panic v=>exact h.elim
   ·exfalso
    have h1:=h.1
    clear h
    simp_all [jW]
   ·exact h.elim
  ·obtain⟨r,H',h1,h2⟩:=lM h
   exact⟨r,H',h1,fun K' KP' g=>h2 _ g⟩
  ·exact h.elim
 ·obtain⟨r,H',h1,h2⟩:=EC hdo h
  exact⟨r,H',h1,fun K' KP' g=>h2 _ g⟩
theorem um{x:Operand}(h:∀t,x= .tmp t→s t=s' t):ah s x=ah s' x:=by
 cases x with
 |tmp t=>exact h t rfl
 |_=>rfl
def j7(o:Oper):List Tmp:=o.op.operands.toList.filterMap fun| .tmp t=>some t|_=>none
theorem xt{o:Oper}(h:∀t∈j7 o,s t=s' t)(x:Operand)(hx:x∈o.op.operands):ah s x=ah s' x:=
 um fun t ht=>h t (by subst ht;exact List.mem_filterMap.2 ⟨_,Array.mem_toList_iff.2 hx,rfl⟩)
theorem tq{parts:Array (Nat×Operand)}(h:∀p∈parts.toList,ah s p.2=ah s' p.2):b9 s parts=b9 s' parts:=by
 unfold b9
 exact List.map_congr_left fun p hp=>by rw[h p hp]
theorem gZ{k:IntKind}:∀{xs:List Operand},(∀x∈xs,ah s x=ah s' x)→b6 s k xs=b6 s' k xs
 |[],_=>rfl
 |x::xs,h=>by
  unfold b6
  rw[h x (by simp),gZ fun y hy=>h y (by simp[hy])]
theorem gd{b:Builtin}{args:List Operand}{tys:List TypeId}{K:AV→aa→Prop}(h:∀x∈args,ah s x=ah s' x):b7 P s H b args tys K=b7 P s' H b args tys K:=by
 unfold b7
 split
 ·rw[h _ (by simp)]
 ·rw[h _ (by simp),h _ (by simp)]
 ·rw[h _ (by simp)]
 ·rw[h _ (by simp),h _ (by simp)]
 ·rename_i x xs
  rw[h x (by simp)]
  have e:∀k,b6 s k xs=b6 s' k xs:=fun k=>gZ fun y hy=>h y (by simp[hy])
  simp only[e]
 ·rename_i x xs
  rw[h x (by simp)]
  have e:∀k,b6 s k xs=b6 s' k xs:=fun k=>gZ fun y hy=>h y (by simp[hy])
  simp only[e]
 ·rfl
theorem zM{hi:Bool}{op:Op}{K:AV→aa→Prop}(h:∀x∈op.operands,ah s x=ah s' x):gJ P s H hi op K=gJ P s' H hi op K:=by
 unfold gJ
 split
 all_goals first
  |rfl
  |(have e:=tq (s:=s) (s':=s') fun p hp=>h p.2 (by simp only[Op.operands,List.mem_toArray,List.mem_map];exact⟨p,hp,rfl⟩);simp only[e];done)
  |exact gd fun x hx=>h x (by simp only[Op.operands,Call.operands];exact Array.mem_append.2 (.inr (Array.mem_toList_iff.1 hx)))
  |(split
    ·exact gd fun x hx=>h x (by simp only[Op.operands,Call.operands];exact Array.mem_append.2 (.inr (Array.mem_toList_iff.1 hx)))
    ·rfl)
  |(rename_i x lo hi' mx
    have e0:ah s x=ah s' x:=h _ (by simp[Op.operands])
    have e2:aS s (some hi')=aS s' (some hi'):=by simp only[aS];rw[h hi' (by simp[Op.operands])]
    have e3:aS s (some mx)=aS s' (some mx):=by simp only[aS];rw[h mx (by simp[Op.operands])]
    have e1:aS s lo=aS s' lo:=by
     cases lo with
     |none=>rfl
     |some y=>simp only[aS];rw[h y (by simp[Op.operands])]
    rw[e0,e1,e2,e3];done)
  |(rename_i x xT t ok;rw[h x (by simp[Op.operands])];done)
  |(rename_i x lo hi'
    have e0:ah s x=ah s' x:=h _ (by simp[Op.operands])
    have e1:aS s lo=aS s' lo:=by
     cases lo with
     |none=>rfl
     |some y=>simp only[aS];rw[h y (by simp[Op.operands])]
    have e2:∀n,cK s n hi'=cK s' n hi':=by
     intro n
     cases hi' with
     |none=>rfl
     |some y=>simp only[cK];rw[h y (by simp[Op.operands])]
    first|(simp only[e0,e1,e2];done)|(simp only[e0,e1,funext e2];done))
  |(simp[Op.operands]at h;simp only[h];done)
  |(rename_i caps;rw[List.map_congr_left fun x hx=>h x (by simp only[Op.operands];exact Array.mem_append.2 (.inr (Array.mem_toList_iff.1 hx)))];done)
  |skip
 all_goals
  rename_i x lo hi'
  have e0:ah s x=ah s' x:=h _ (by simp[Op.operands])
  have e1:aS s lo=aS s' lo:=by
   cases lo with
   |none=>rfl
   |some y=>simp only[aS];rw[h y (by simp[Op.operands])]
  have e2:∀n,cK s n hi'=cK s' n hi':=by
   intro n
   cases hi' with
   |none=>rfl
   |some y=>simp only[cK];rw[h y (by simp[Op.operands])]
  simp only[e0,e1,e2,Da]
theorem gA{o:Oper}{K:AV→aa→Prop}{KP:Value→aa→Prop}(h:∀t∈j7 o,s t=s' t):aB P hint s H o K KP=aB P hint s' H o K KP:=by
 have h':=xt h
 unfold aB
 split
 ·rename_i x hx
  rw[h' x (by rw[hx];simp[Op.operands])]
 ·rename_i c hc
  have hm:∀x∈c.operands,ah s x=ah s' x:=fun x hx=>h' x (by rw[hc];exact hx)
  split
  ·rename_i f hf
   have e1:ah s f=ah s' f:=hm f (by simp[Call.operands,hf])
   have e2:c.args.toList.map (ah s)=c.args.toList.map (ah s'):=List.map_congr_left fun x hx=>hm x (by simp only[Call.operands];exact Array.mem_append.2 (.inr (Array.mem_toList_iff.1 hx)))
   rw[e1,e2]
  ·exact gd fun x hx=>hm x (by simp only[Call.operands];exact Array.mem_append.2 (.inr (Array.mem_toList_iff.1 hx)))
  ·rfl
 ·exact zM h'
end
def aY(ops:Array Oper)(j:Nat):Option Tmp:=(ops[j]?).bind (·.dst)
def aP(o:Oper)(j:Nat):Bool:=o.after.toList.any fun e=>Region.binds .any e&&e.on==j
def cg(ops:Array Oper):Nat→Nat→Nat→Bool
 |0,_,_=>false
 |fuel+1,i,j=>match ops[i]? with
  |none=>false
  |some o=>aP o j||(List.range i).any fun k=>aP o k&&cg ops fuel k j
def dK(hint:Nat→Bool)(ops:Array Oper):Bool:=(List.range ops.size).all fun i=>match ops[i]? with
 |none=>true
 |some o=>(o.after.toList.all fun e=> !Region.binds .any e||decide (e.on<i))&&((j7 o).all fun t=>(List.range ops.size).all fun j=> !(aY ops j==some t)||(aP o j||(match ops[j]? with|some oj=>aP oj i|none=>false)))&&
  (match o.guard with|some (j,_)=>aP o j|none=>true)&&jW hint o.op&&((List.range ops.size).all fun j=>j==i||(aY ops i).isNone|| !(aY ops j==aY ops i))
structure oR (hint:Nat→Bool) (ops:Array Oper):Prop where
 down:∀(i:Nat) (o:Oper),ops[i]?=some o→∀e∈o.after,Region.binds .any e=true→e.on<i
 reads:∀(i:Nat) (o:Oper),ops[i]?=some o→∀t∈j7 o,∀j,aY ops j=some t→aP o j=true∨∃oj,ops[j]?=some oj∧aP oj i=true
 guard:∀(i:Nat) (o:Oper),ops[i]?=some o→∀j w,o.guard=some (j,w)→aP o j=true
 Ir:∀(i:Nat) (o:Oper),ops[i]?=some o→jW hint o.op=true
 once:∀(i j:Nat) (t:Tmp),aY ops i=some t→aY ops j=some t→i=j
theorem dP{ops:Array Oper}{j:Nat}{t:Tmp}(h:aY ops j=some t):j<ops.size:=by
 unfold aY at h
 obtain⟨o,ho,_⟩:=Option.bind_eq_some_iff.1 h
 exact(Array.getElem?_eq_some_iff.1 ho).1
theorem cf{hint:Nat→Bool}{ops:Array Oper}(h:dK hint ops=true):oR hint ops:=by
 unfold dK at h
 rw[List.all_eq_true]at h
 have key:∀i o,ops[i]?=some o→((o.after.toList.all fun e=> !Region.binds .any e||decide (e.on<i))=true∧((j7 o).all fun t=>(List.range ops.size).all fun j=> !(aY ops j==some t)||(aP o j||(match ops[j]? with|some oj=>aP oj i|none=>false)))=true∧
   (match o.guard with|some (j,_)=>aP o j|none=>true)=true∧jW hint o.op=true)∧((List.range ops.size).all fun j=>j==i||(aY ops i).isNone|| !(aY ops j==aY ops i))=true:=by
  intro i o ho
  have:=h i (List.mem_range.2 (Array.getElem?_eq_some_iff.1 ho).1)
  simp only[ho,Bool.and_eq_true]at this
  exact⟨⟨this.1.1.1.1,this.1.1.1.2,this.1.1.2,this.1.2⟩,this.2⟩
 refine⟨fun i o ho e he hbe=>?_,fun i o ho t ht j hj=>?_,fun i o ho j w hg=>?_,fun i o ho=>(key i o ho).1.2.2.2,fun i j t hi hj=>?_⟩
 ·have:=(key i o ho).1.1
  rw[List.all_eq_true]at this
  simpa[hbe]using this e (Array.mem_toList_iff.2 he)
 ·have:=(key i o ho).1.2.1
  rw[List.all_eq_true]at this
  have:=this t ht
  rw[List.all_eq_true]at this
  have:=this j (List.mem_range.2 (dP hj))
  have hjl:=dP hj
  have hoj:ops[j]?=some ops[j]:=by simp[hjl]
  rw[hj,hoj]at this
  simp only[beq_self_eq_true,Bool.not_true,Bool.false_or,Bool.or_eq_true]at this
  rcases this with h|h
  ·exact .inl h
  ·exact .inr ⟨_,hoj,h⟩
 ·have:=(key i o ho).1.2.2.1
  simpa[hg]using this
 ·obtain⟨o,ho,_⟩:=Option.bind_eq_some_iff.1 (show(ops[i]?).bind (·.dst)=some t from hi)
  have:=(key i o ho).2
  rw[List.all_eq_true]at this
  have:=this j (List.mem_range.2 (dP hj))
  simp[hi,hj]at this
  exact this.symm
section
variable (P:Program) (hint:Nat→Bool) (n:Nat) (ops:Array Oper)
def gN(H:aa)(s:Nat→AV)(o:Oper)(r:AV):Prop:=match o.guard with
 |none=>∀K KP,K r H→aB P hint s H o K KP
 |some (j,want)=>∃b,fx ops s n j want=some b∧if b=true then ∀K KP,K r H→aB P hint s H o K KP else r= .a7 []
def bK(Q:aQ):List Oper→(Nat→AV)→aa→Prop
 |[],s,H=>Q .normal s H
 |o::rest,s,H=>cN P hint n ops (fun _ _ _=>False) o (fun s' H'=>H'=H∧bK Q rest s' H) s H
def bf(s:Nat→AV)(rs:Nat→AV):Nat→(Nat→AV)
 |0=>s
 |k+1=>bp n (bf s rs k) (aY ops k) (rs k)
end
section
variable (P:Program) (hint:Nat→Bool) (n:Nat) (ops:Array Oper)
def ur(Q:aQ)(l:List Oper):aQ:=fun e s H=>match e with| .normal=>aN P hint n ops Q l s H|_=>False
def cH(Q:aQ):Nat→List Oper→(Nat→AV)→aa→Prop
 |0,l,s,H=>aN P hint n ops Q l s H
 |_+1,[],s,H=>aN P hint n ops Q [] s H
 |m+1,o::rest,s,H=>cN P hint n ops (fun _ _ _=>False) o (fun s' H'=>H'=H∧cH Q m rest s' H) s H
end
theorem nP{P:Program}{hint:Nat→Bool}{n:Nat}{ops:Array Oper}{Q:aQ}:∀(m:Nat) (l:List Oper) (s:Nat→AV) (H:aa),cH P hint n ops Q m l s H=bK P hint n ops (ur P hint n ops Q (l.drop m)) (l.take m) s H
 |0,l,s,H=>by simp[cH,bK,ur]
 |m+1,[],s,H=>by simp[cH,bK,ur]
 |m+1,o::rest,s,H=>by
  have e:∀s' H,cH P hint n ops Q m rest s' H=_:=fun s' H=>nP m rest s' H
  simp only[cH,List.drop_succ_cons,List.take_succ_cons,bK,e]
theorem lZ{P:Program}{hint:Nat→Bool}{n:Nat}{ops:Array Oper}{Q Q':aQ}(hq:∀s H,Q .normal s H→Q' .normal s H):∀(l:List Oper) (s:Nat→AV) {H:aa},bK P hint n ops Q l s H→bK P hint n ops Q' l s H
 |[],s,H,h=>hq _ _ h
 |o::rest,s,H,h=>by
  unfold bK at h⊢
  exact jf (fun _ _ _ h=>h) (fun s' H' h'=>⟨h'.1,lZ hq rest s' h'.2⟩) h
section
variable {P:Program} {hint:Nat→Bool} {n:Nat} {ops:Array Oper} {H:aa} {Q:aQ}
theorem gN.op{s:Nat→AV}{o:Oper}{r:AV}(h:gN P hint n ops H s o r){K:(Nat→AV)→aa→Prop}(hk:K (bp n s o.dst r) H):cN P hint n ops Q o K s H:=by
 unfold gN at h
 unfold cN
 split at h
 ·rename_i hg
  try simp only[hg]
  exact h (fun r H'=>K (bp n s o.dst r) H') _ hk
 ·rename_i j want hg
  obtain⟨b,hb,h⟩:=h
  simp only[hg,hb]
  split at h
  ·rw[if_pos (by assumption)];exact h (fun r H'=>K (bp n s o.dst r) H') _ hk
  ·rw[if_neg (by assumption)];rw[h]at hk;exact hk
theorem gN.congr{s s':Nat→AV}{o:Oper}{r:AV}(h:gN P hint n ops H s o r)(h1:∀t∈j7 o,s t=s' t)(h2:∀j w,o.guard=some (j,w)→∀d,aY ops j=some d→s d=s' d):gN P hint n ops H s' o r:=by
 unfold gN at h⊢
 split at h
 ·rename_i hg
  try simp only[hg]
  intro K KP hk
  rw[←gA h1]
  exact h K KP hk
 ·rename_i j want hg
  try simp only[hg]
  obtain⟨b,hb,h⟩:=h
  refine⟨b,?_,?_⟩
  ·rw[←hb]
   unfold fx
   have:=h2 j want hg
   unfold aY at this
   cases hd:(ops[j]?).bind (·.dst)with
   |none=>rfl
   |some d=>simp only[this d hd]
  ·split at h
   ·rw[if_pos (by assumption)]
    intro K KP hk
    rw[←gA h1]
    exact h K KP hk
   ·rw[if_neg (by assumption)];exact h
theorem kQ(hdt:∀(i:Nat) (o:Oper),ops[i]?=some o→jW hint o.op=true)(m:Nat)(hm:m≤ops.size)(s0:Nat→AV)(rs0:Nat→AV):∀(l:List Oper) (k:Nat),l=(ops.toList.take m).drop k→k≤m→bK P hint n ops Q l (bf n ops s0 rs0 k) H→
  ∃rs,(∀i,i<k→rs i=rs0 i)∧(∀i o,k≤i→i<m→ops[i]?=some o→gN P hint n ops H (bf n ops s0 rs i) o (rs i))∧Q .normal (bf n ops s0 rs m) H
 |[],k,hl,hk,h=>by
  have:m≤k:=by have:=congrArg List.length hl;simp at this;omega
  have hk':k=m:=by omega
  subst hk'
  exact⟨rs0,fun _ _=>rfl,fun i o hi hi2 ho=>absurd hi2 (by omega),h⟩
 |o::rest,k,hl,hk,h=>by
  have hlt:k<m:=by have:=congrArg List.length hl;simp at this;omega
  have ho:ops[k]?=some o:=by
   have:((ops.toList.take m).drop k)[0]?=some o:=by rw[←hl];rfl
   simpa[List.getElem?_take,hlt]using this
  have hrest:rest=(ops.toList.take m).drop (k+1):=by rw[←List.drop_drop];rw[←hl];rfl
  have hdst:aY ops k=o.dst:=by simp[aY,ho]
  have step:∃r,gN P hint n ops H (bf n ops s0 rs0 k) o r∧bK P hint n ops Q rest (bp n (bf n ops s0 rs0 k) o.dst r) H:=by
   unfold bK cN at h
   split at h
   ·rename_i hg
    obtain⟨r,H',⟨rfl,hr⟩,hdet⟩:=eH (hdt k o ho) h
    exact⟨r,by unfold gN;simp only[hg];exact fun K KP hk=>hdet K KP hk,hr⟩
   ·rename_i j want hg
    split at h
    ·rename_i b hb
     split at h
     ·rename_i hbw
      obtain⟨r,H',⟨rfl,hr⟩,hdet⟩:=eH (hdt k o ho) h
      exact⟨r,by unfold gN;simp only[hg];exact⟨b,hb,by rw[if_pos hbw];exact fun K KP hk=>hdet K KP hk⟩,hr⟩
     ·rename_i hbw
      exact⟨.a7 [],by unfold gN;simp only[hg];exact⟨b,hb,by simp[hbw]⟩,h.2⟩
    ·exact h.elim
  obtain⟨r,hr,hnext⟩:=step
  let rs1:Nat→AV:=fun i=>if i=k then r else rs0 i
  have hst:∀i,i≤k→bf n ops s0 rs1 i=bf n ops s0 rs0 i:=by
   intro i
   induction i with
   |zero=>intro _;rfl
   |succ i ih=>
    intro hi
    simp only[bf,ih (by omega)]
    have:rs1 i=rs0 i:=by show(if i=k then r else rs0 i)=_;rw[if_neg (by omega)]
    rw[this]
  have hk1:rs1 k=r:=by show(if k=k then r else _)=r;rw[if_pos rfl]
  have h':bK P hint n ops Q rest (bf n ops s0 rs1 (k+1)) H:=by
   simp only[bf,hst k (Nat.le_refl _),hk1,hdst]
   exact hnext
  obtain⟨rs,h1,h2,h3⟩:=kQ hdt m hm s0 rs1 rest (k+1) hrest hlt h'
  have hst2:∀i,i≤k→bf n ops s0 rs i=bf n ops s0 rs0 i:=by
   intro i
   induction i with
   |zero=>intro _;rfl
   |succ i ih=>
    intro hi
    simp only[bf,ih (by omega)]
    have e1:rs i=rs1 i:=h1 i (by omega)
    have e2:rs1 i=rs0 i:=by show(if i=k then r else rs0 i)=_;rw[if_neg (by omega)]
    rw[e1,e2]
  refine⟨rs,fun i hi=>?_,fun i o' hi hi2 ho'=>?_,h3⟩
  ·rw[h1 i (by omega)];show(if i=k then r else rs0 i)=_;rw[if_neg (by omega)]
  ·rcases Nat.lt_or_ge k i with hki|hki
   ·exact h2 i o' hki hi2 ho'
   ·obtain rfl:i=k:=by omega
    rw[ho]at ho'
    cases ho'
    rw[hst2 i (Nat.le_refl _),h1 i (by omega),hk1]
    exact hr
theorem mO{p q:Nat→Bool}{i:Nat}(hpq:∀j,p j=true→q j=true)(hp:p i=false)(hq:q i=true):∀l:List Nat,i∈l→l.countP p<l.countP q
 |[],h=>by simp at h
 |x::l,h=>by
  have hle:l.countP p≤l.countP q:=List.countP_mono_left fun j _=>hpq j
  rw[List.countP_cons,List.countP_cons]
  by_cases hx:i=x
  ·subst hx
   simp[hp,hq];omega
  ·have:=mO hpq hp hq l (by simpa[hx]using h)
   by_cases hpx:p x=true
   ·simp[hpx,hpq x hpx];omega
   ·simp[hpx];omega
theorem sW{listed:Array Bool}{o:Oper}{j:Nat}(h1:(o.after.all fun e=> !Region.binds .any e||listed.getD e.on false)=true)(h2:aP o j=true):listed.getD j false=true:=by
 unfold aP at h2
 rw[List.any_eq_true]at h2
 obtain⟨e,he,h2⟩:=h2
 rw[Array.all_eq_true_iff_forall_mem]at h1
 have:=h1 e (Array.mem_toList_iff.1 he)
 simp only[Bool.and_eq_true,beq_iff_eq]at h2
 simpa[h2.1,h2.2]using this
theorem fE{m0:Nat}(hc:oR hint ops)(htl:∀i o,ops[i]?=some o→m0<i→aP o (i-1)=true):∀{fuel:Nat} {listed:Array Bool} {s:Nat→AV} {H:aa},listed.size=ops.size→∀m,m0≤m→m≤ops.size→
  (∀i,i<m→listed.getD i true=true)→(∀i,m≤i→i<ops.size→listed.getD i false=false)→aN P hint n ops Q (ops.toList.drop m) s H→ops.size-m≤fuel→fu P hint n ops Q fuel listed s H:=by
 intro fuel
 induction fuel with
 |zero=>
  intro listed s H hsz m hm0 hm hall hno h hf
  have:m=ops.size:=by omega
  subst this
  rw[List.drop_of_length_le (by simp)]at h
  refine⟨?_,h⟩
  unfold Region.ready
  rw[List.filter_eq_nil_iff]
  intro i hi
  simp only[hall i (List.mem_range.1 hi),Bool.not_true,Bool.false_and,Bool.false_eq_true,not_false_eq_true]
 |succ fuel ih=>
  intro listed s H hsz m hm0 hm hall hno h hf
  rcases Nat.lt_or_ge m ops.size with hlt|hge
  ·have hget:ops[m]?=some ops[m]:=by simp[hlt]
   have hun:listed.getD m true=false:=by
    have:=hno m (Nat.le_refl _) hlt
    simpa[Array.getD,show m<listed.size by omega]using this
   have hd:ops.toList.drop m=ops[m]::ops.toList.drop (m+1):=by
    rw[List.drop_eq_getElem_cons (by simpa using hlt)];simp
   rw[hd]at h
   refine⟨fun hr=>?_,fun i hi=>?_⟩
   ·exfalso
    have:m∈Region.ready .any ops listed:=by
     unfold Region.ready
     rw[List.mem_filter]
     refine⟨List.mem_range.2 hlt,?_⟩
     simp only[hun,hget,Bool.not_false,Bool.true_and,Option.map_some,Option.getD_some]
     rw[Array.all_eq_true_iff_forall_mem]
     intro e he
     cases hbe:Region.binds .any e
     ·simp
     have hl:=hc.down m _ hget e he hbe
     have:=hall e.on hl
     have:listed.getD e.on false=true:=by simpa[Array.getD,show e.on<listed.size by omega]using this
     simp[this]
    rw[hr]at this
    simp at this
   ·unfold Region.ready at hi
    rw[List.mem_filter]at hi
    obtain⟨hi,hrd⟩:=hi
    have hi:=List.mem_range.1 hi
    have hgeti:ops[i]?=some ops[i]:=by simp[hi]
    simp only[hgeti,Option.map_some,Option.getD_some,Bool.and_eq_true,Bool.not_eq_true']at hrd
    obtain⟨hu,haft⟩:=hrd
    have him:i=m:=by
     rcases Nat.lt_trichotomy i m with h1|h1|h1
     ·rw[hall i h1]at hu;cases hu
     ·exact h1
     ·have:=sW haft (htl i _ hgeti (by omega))
      rw[hno (i-1) (by omega) (by omega)]at this
      cases this
    subst him
    simp only[hget]
    have hset:∀j b,(listed.setIfInBounds i true).getD j b=if j=i then true else listed.getD j b:=by
     intro j b
     simp only[Array.getD_eq_getD_getElem?,Array.getElem?_setIfInBounds]
     by_cases e:i=j
     ·subst e;simp[hsz,hi]
     ·rw[if_neg e,if_neg (Ne.symm e)]
    refine jf (fun _ _ _ h=>h) (fun s' H' h'=>?_) h
    refine ih (by simpa using hsz) (i+1) (by omega) hi (fun j hj=>?_) (fun j hj hj2=>?_) h' (by omega)
    ·rw[hset]
     by_cases e:j=i
     ·rw[if_pos e]
     ·rw[if_neg e];exact hall j (by omega)
    ·rw[hset,if_neg (by omega)]
     exact hno j (by omega) hj2
  ·have:m=ops.size:=by omega
   subst this
   rw[List.drop_of_length_le (by simp)]at h
   refine⟨fun _=>h,fun i hi=>?_⟩
   unfold Region.ready at hi
   rw[List.mem_filter]at hi
   obtain⟨hi,hrd⟩:=hi
   rw[hall i (List.mem_range.1 hi)]at hrd
   simp at hrd
theorem eT{L:Nat→Bool}(hcl:∀j oj i,ops[j]?=some oj→L j=true→aP oj i=true→L i=true):∀(fuel:Nat) (i:Nat) (o:Oper),ops[i]?=some o→
  (∀j,aP o j=true→L j=true)→∀j,cg ops fuel i j=true→L j=true
 |0,i,o,ho,hb,j,h=>by simp[cg]at h
 |fuel+1,i,o,ho,hb,j,h=>by
  simp only[cg,ho,Bool.or_eq_true,List.any_eq_true,Bool.and_eq_true]at h
  rcases h with h|⟨k,_,h1,h2⟩
  ·exact hb j h
  ·have hk:=hb k h1
   cases hok:ops[k]? with
   |none=>cases fuel<;>simp[cg,hok]at h2
   |some ok=>exact eT hcl fuel k ok hok (fun j' hj'=>hcl k ok j' hok hk hj') j h2
theorem kL{listed:Array Bool}(hcl:∀j oj i,ops[j]?=some oj→listed.getD j false=true→aP oj i=true→listed.getD i false=true)(fuel:Nat)(i:Nat)(o:Oper)(ho:ops[i]?=some o)
  (hb:∀j,aP o j=true→listed.getD j false=true) (j:Nat) (h:cg ops fuel i j=true):listed.getD j false=true:=eT (L:=fun c=>listed.getD c false) hcl fuel i o ho hb j h
theorem sz(hc:oR hint ops)(m:Nat)(hm:m≤ops.size)(htl:∀i o,ops[i]?=some o→(i=m→∀j,j<m→cg ops 12 i j=true)∧(m<i→aP o (i-1)=true))(s:Nat→AV)(rs:Nat→AV)(hs:∀i o,i<m→ops[i]?=some o→gN P hint n ops H (bf n ops s rs i) o (rs i))(hQ:aN P hint n ops Q (ops.toList.drop m) (bf n ops s rs m) H):
  ∀(fuel:Nat) (listed:Array Bool) (s':Nat→AV),listed.size=ops.size→(List.range ops.size).countP (fun j=> !listed.getD j true)≤fuel→
   (∀t j,aY ops j=some t→s' t=if listed.getD j false=true then(if t<n then rs j else .top)else s t)→(∀t,(∀j,aY ops j≠some t)→s' t=s t)→
   (∀j oj i,ops[j]?=some oj→listed.getD j false=true→aP oj i=true→listed.getD i false=true)→(∀i,m≤i→i<ops.size→listed.getD i false=false)→fu P hint n ops Q fuel listed s' H:=by
 have st_no:∀k t,(∀j,j<k→aY ops j≠some t)→bf n ops s rs k t=s t:=by
  intro k t
  induction k with
  |zero=>intro _;rfl
  |succ k ih=>
   intro h
   simp only[bf]
   cases hd:aY ops k with
   |none=>exact ih fun j hj=>h j (by omega)
   |some d=>
    simp only[bp]
    have:t≠d:=fun e=>h k (by omega) (by rw[hd,e])
    rw[if_neg this]
    exact ih fun j hj=>h j (by omega)
 have st_dst:∀k t j,aY ops j=some t→j<k→bf n ops s rs k t=if t<n then rs j else .top:=by
  intro k t j hj
  induction k with
  |zero=>intro h;omega
  |succ k ih=>
   intro h
   simp only[bf]
   by_cases e:j=k
   ·subst e
    rw[hj]
    simp only[bp,if_pos]
   ·have:=ih (by omega)
    cases hd:aY ops k with
    |none=>exact this
    |some d=>
     simp only[bp]
     have hne:t≠d:=fun e'=>e (hc.once j k t hj (by rw[hd,e']))
     rw[if_neg hne]
     exact this
 have bind_of:∀(listed:Array Bool) (o:Oper) (j:Nat),(o.after.all fun e=> !Region.binds .any e||listed.getD e.on false)=true→aP o j=true→listed.getD j false=true:=by
  intro listed o j h1 h2
  unfold aP at h2
  rw[List.any_eq_true]at h2
  obtain⟨e,he,h2⟩:=h2
  rw[Array.all_eq_true_iff_forall_mem]at h1
  have:=h1 e (Array.mem_toList_iff.1 he)
  simp only[Bool.and_eq_true,beq_iff_eq]at h2
  simpa[h2.1,h2.2]using this
 have fin:∀(listed:Array Bool) (s':Nat→AV),(∀i,i<m→listed.getD i true=true)→(∀i,m≤i→i<ops.size→listed.getD i false=false)→listed.size=ops.size→
   (∀t j,aY ops j=some t→s' t=if listed.getD j false=true then(if t<n then rs j else .top)else s t)→(∀t,(∀j,aY ops j≠some t)→s' t=s t)→s'=bf n ops s rs m:=by
  intro listed s' hall hno hsz h1 h2
  funext t
  by_cases hd:∃j,aY ops j=some t
  ·obtain⟨j,hj⟩:=hd
   have hjl:=dP hj
   rcases Nat.lt_or_ge j m with hjm|hjm
   ·have:listed.getD j false=true:=by
     have:=hall j hjm
     simpa[Array.getD,show j<listed.size by omega]using this
    rw[h1 t j hj,if_pos this,st_dst _ t j hj hjm]
   ·rw[h1 t j hj,if_neg (by simp[hno j hjm hjl]),st_no m t fun j' hj' hd'=>by
     have:=hc.once j' j t hd' hj
     omega]
  ·have hd':∀j,aY ops j≠some t:=fun j hj=>hd ⟨j,hj⟩
   rw[h2 t hd',st_no _ t fun j _=>hd' j]
 intro fuel
 induction fuel with
 |zero=>
  intro listed s' hsz hcnt h1 h2 hcl hno
  have hall:∀i,i<ops.size→listed.getD i true=true:=by
   intro i hi
   have h0:(List.range ops.size).countP (fun j=> !listed.getD j true)=0:=by omega
   rw[List.countP_eq_zero]at h0
   simpa using h0 i (List.mem_range.2 hi)
  have hs':=fin listed s' (fun i hi=>hall i (by omega)) hno hsz h1 h2
  subst hs'
  exact fE hc (fun i o ho hi=>(htl i o ho).2 hi) hsz m (Nat.le_refl _) hm (fun i hi=>hall i (by omega)) (fun i hi hi2=>hno i hi hi2) hQ (by
   rcases Nat.lt_or_ge m ops.size with h|h
   ·have e1:=hall m h
    have e2:=hno m (Nat.le_refl _) h
    simp[Array.getD,show m<listed.size by omega]at e1 e2
    rw[e1]at e2
    cases e2
   ·omega)
 |succ fuel ih=>
  intro listed s' hsz hcnt h1 h2 hcl hno
  by_cases hpre:∀i,i<m→listed.getD i true=true
  ·have hs':=fin listed s' hpre hno hsz h1 h2
   subst hs'
   refine fE hc (fun i o ho hi=>(htl i o ho).2 hi) hsz m (Nat.le_refl _) hm hpre hno hQ ?_
   have hsub:(List.range ops.size).countP (fun j=>decide (m≤j))≤(List.range ops.size).countP (fun j=> !listed.getD j true):=by
    refine List.countP_mono_left fun j hj hmj=>?_
    have hj:=List.mem_range.1 hj
    have:=hno j (by simpa using hmj) hj
    simp[Array.getD,show j<listed.size by omega]at this⊢
    exact this
   have hcm:∀N,m≤N→(List.range N).countP (fun j=>decide (m≤j))=N-m:=by
    intro N hN
    induction N with
    |zero=>simp
    |succ N ihN=>
     rw[List.range_succ,List.countP_append,List.countP_singleton]
     by_cases e:m≤N
     ·rw[ihN e];simp[e];omega
     ·have e':m=N+1:=by omega
      have:(List.range N).countP (fun j=>decide (m≤j))=0:=by
       rw[List.countP_eq_zero]
       intro j hj
       have:=List.mem_range.1 hj
       simp;omega
      rw[this];simp[e];omega
   rw[hcm _ hm]at hsub
   omega
  have hex:∃i,i<m∧listed.getD i true=false∧∀j,j<i→listed.getD j true=true:=by
   have:∃i,i<m∧listed.getD i true=false:=by
    rcases Classical.not_forall.1 hpre with⟨i,hi⟩
    rcases Classical.not_imp.1 hi with⟨h1,h2⟩
    exact⟨i,h1,by simpa using h2⟩
   obtain⟨i,hi⟩:=this
   induction i using Nat.strongRecOn with
   |_ i ihi=>
    by_cases hj:∃j,j<i∧listed.getD j true=false
    ·obtain⟨j,hj1,hj2⟩:=hj
     exact ihi j hj1 ⟨by omega,hj2⟩
    ·refine⟨i,hi.1,hi.2,fun j hji=>?_⟩
     cases hq:listed.getD j true with
     |true=>rfl
     |false=>exact absurd ⟨j,hji,hq⟩ hj
  obtain⟨i0,hi0,hu0,hb0⟩:=hex
  refine⟨fun hr=>?_,fun i hi=>?_⟩
  ·exfalso
   have hlt0:i0<ops.size:=by omega
   have hget:ops[i0]?=some ops[i0]:=by simp[hlt0]
   have:i0∈Region.ready .any ops listed:=by
    unfold Region.ready
    rw[List.mem_filter]
    refine⟨List.mem_range.2 hlt0,?_⟩
    simp only[hu0,hget,Bool.not_false,Bool.true_and,Option.map_some,Option.getD_some]
    rw[Array.all_eq_true_iff_forall_mem]
    intro e he
    cases hbe:Region.binds .any e
    ·simp
    have hlt:=hc.down i0 _ hget e he hbe
    have:=hb0 e.on hlt
    have:listed.getD e.on false=true:=by simpa[Array.getD,show e.on<listed.size by omega]using this
    simp[this]
   rw[hr]at this
   simp at this
  ·unfold Region.ready at hi
   rw[List.mem_filter]at hi
   obtain⟨hi,hrd⟩:=hi
   have hi:=List.mem_range.1 hi
   have hget:ops[i]?=some ops[i]:=by simp[hi]
   simp only[hget,Option.map_some,Option.getD_some,Bool.and_eq_true,Bool.not_eq_true']at hrd
   obtain⟨hun,haft⟩:=hrd
   simp only[hget]
   have hdst:aY ops i=(ops[i]).dst:=by simp[aY,hget]
   have hun':listed.getD i false=false:=by simpa[Array.getD,show i<listed.size by omega]using hun
   have him:i<m:=by
    rcases Nat.lt_or_ge i m with h|h
    ·exact h
    ·exfalso
     have hu0':listed.getD i0 false=false:=by simpa[Array.getD,show i0<listed.size by omega]using hu0
     rcases Nat.lt_or_ge m i with h2|h2
     ·have:=bind_of listed ops[i] (i-1) haft ((htl i _ hget).2 h2)
      rw[hno (i-1) (by omega) (by omega)]at this
      cases this
     ·have him:i=m:=by omega
      have:=kL hcl 12 i _ hget (fun j hj=>bind_of listed ops[i] j haft hj) i0 ((htl i _ hget).1 him i0 hi0)
      rw[this]at hu0'
      cases hu0'
   have agree:∀t j,aY ops j=some t→aP ops[i] j=true→bf n ops s rs i t=s' t:=by
    intro t j hj hb
    have hl:=bind_of listed ops[i] j haft hb
    have hlt:j<i:=by
     unfold aP at hb
     rw[List.any_eq_true]at hb
     obtain⟨e,he,hb⟩:=hb
     simp only[Bool.and_eq_true,beq_iff_eq]at hb
     have:=hc.down i _ hget e (Array.mem_toList_iff.1 he) hb.1
     omega
    rw[st_dst i t j hj hlt,h1 t j hj,if_pos hl]
   refine gN.op ((hs i _ him hget).congr (fun t ht=>?_) fun j w hg d hd=>agree d j hd (hc.guard i _ hget j w hg)) ?_
   ·by_cases hd:∃j,aY ops j=some t
    ·obtain⟨j,hj⟩:=hd
     rcases hc.reads i _ hget t ht j hj with hb|⟨oj,hoj,hb⟩
     ·exact agree t j hj hb
     ·have hnl:listed.getD j false=false:=by
       cases hq:listed.getD j false with
       |false=>rfl
       |true=>rw[hcl j oj i hoj hq hb]at hun';cases hun'
      have hlt:i<j:=by
       unfold aP at hb
       rw[List.any_eq_true]at hb
       obtain⟨e,he,hb⟩:=hb
       simp only[Bool.and_eq_true,beq_iff_eq]at hb
       have:=hc.down j _ hoj e (Array.mem_toList_iff.1 he) hb.1
       omega
      rw[h1 t j hj,if_neg (by simp[hnl]),st_no i t fun j' hj' hd'=>by
       have:=hc.once j' j t hd' hj
       omega]
    ·have hd':∀j,aY ops j≠some t:=fun j hj=>hd ⟨j,hj⟩
     rw[st_no i t fun j _=>hd' j,h2 t hd']
   ·have hset:∀j b,(listed.setIfInBounds i true).getD j b=if j=i then true else listed.getD j b:=by
     intro j b
     simp only[Array.getD_eq_getD_getElem?,Array.getElem?_setIfInBounds]
     by_cases e:i=j
     ·subst e;simp[hsz,hi]
     ·rw[if_neg e,if_neg (Ne.symm e)]
    refine ih _ _ (by simpa using hsz) ?_ ?_ ?_ ?_ ?_
    ·have:=mO (p:=fun j=> !(listed.setIfInBounds i true).getD j true) (q:=fun j=> !listed.getD j true) (i:=i) (fun j hj=>by
      simp only[hset]at hj⊢
      by_cases e:j=i
      ·simp[e]at hj
      ·simpa[e]using hj) (by simp[hset]) (by simp[hun]) (List.range ops.size) (List.mem_range.2 hi)
     omega
    ·intro t j hj
     rw[hset]
     by_cases e:j=i
     ·subst e
      rw[hdst]at hj
      rw[if_pos rfl,if_pos rfl,hj]
      simp only[bp,if_pos]
     ·rw[if_neg e]
      cases hd:(ops[i]).dst with
      |none=>exact h1 t j hj
      |some d=>
       simp only[bp]
       have:t≠d:=fun e'=>e (hc.once j i t hj (by rw[hdst,hd,e']))
       rw[if_neg this]
       exact h1 t j hj
    ·intro t ht
     cases hd:(ops[i]).dst with
     |none=>exact h2 t ht
     |some d=>
      simp only[bp]
      have:t≠d:=fun e'=>ht i (by rw[hdst,hd,e'])
      rw[if_neg this]
      exact h2 t ht
    ·intro j oj i' hoj hlj hb
     rw[hset]at hlj⊢
     by_cases e':i'=i
     ·rw[if_pos e']
     ·rw[if_neg e']
      by_cases e:j=i
      ·subst e
       rw[hget]at hoj
       cases hoj
       exact bind_of listed _ i' haft hb
      ·rw[if_neg e]at hlj
       exact hcl j oj i' hoj hlj hb
    ·intro j hj hj2
     rw[hset,if_neg (by omega)]
     exact hno j hj hj2
def dH(ops:Array Oper)(m:Nat):Bool:=decide (m≤ops.size)&&(List.range ops.size).all fun i=>decide (i<m)||if i=m then(List.range m).all fun j=>cg ops 12 i j else match ops[i]? with
 |none=>true
 |some o=>aP o (i-1)
theorem eA{m:Nat}(h:dH ops m=true):m≤ops.size∧∀i o,ops[i]?=some o→(i=m→∀j,j<m→cg ops 12 i j=true)∧(m<i→aP o (i-1)=true):=by
 unfold dH at h
 simp only[Bool.and_eq_true,decide_eq_true_eq,List.all_eq_true]at h
 refine⟨h.1,fun i o ho=>?_⟩
 have:=h.2 i (List.mem_range.2 (Array.getElem?_eq_some_iff.1 ho).1)
 refine⟨fun e j hj=>?_,fun hi=>?_⟩
 ·subst e
  simp only[Nat.lt_irrefl,decide_false,Bool.false_or,if_true,List.all_eq_true]at this
  exact this j (List.mem_range.2 hj)
 ·have h1:¬i<m:=by omega
  have h2:¬i=m:=by omega
  simpa only[h1,h2,decide_false,Bool.false_or,if_false,ho]using this
theorem qX(m:Nat){H0:aa}{id:Nat}{s:Nat→AV}(hm:P.follows .mixedOrders=true)(hc:dK hint ops=true)(ht:dH ops m=true)
  (h:bK P hint n ops (ur P hint n ops Q (ops.toList.drop m)) (ops.toList.take m) s H):cE P hint n H0 (.region id ops true) Q s H:=by
 obtain⟨hms,htl⟩:=eA ht
 refine⟨hm,?_⟩
 obtain⟨rs,_,h2,h3⟩:=kQ (cf hc).Ir m hms s (fun _=> .top) (ops.toList.take m) 0 rfl (Nat.zero_le _) h
 refine sz (cf hc) m hms htl s rs (fun i o hi ho=>h2 i o (Nat.zero_le _) hi ho) h3 ops.size (Array.replicate ops.size false) s (by simp) ?_ ?_ ?_ ?_ ?_
 ·exact Nat.le_trans List.countP_le_length (by simp)
 ·intro t j hj
  have hjl:=dP hj
  rw[if_neg (by simp[Array.getD,hjl])]
 ·intro t _;rfl
 ·intro j oj i hoj hl
  have hjl:=(Array.getElem?_eq_some_iff.1 hoj).1
  simp[Array.getD,hjl]at hl
 ·intro i hi hi2
  simp[Array.getD,hi2]
theorem aF{H0:aa}{id:Nat}{s:Nat→AV}(hm:P.follows .mixedOrders=true)(hc:dK hint ops=true)(h:bK P hint n ops Q ops.toList s H):cE P hint n H0 (.region id ops true) Q s H:=by
 refine qX ops.size hm hc ?_ ?_
 ·unfold dH
  simp only[Nat.le_refl,decide_true,Bool.true_and,List.all_eq_true]
  intro i hi
  simp[List.mem_range.1 hi]
 ·have e1:ops.toList.drop ops.size=[]:=List.drop_of_length_le (by simp)
  have e2:ops.toList.take ops.size=ops.toList:=List.take_of_length_le (by simp)
  rw[e1,e2]
  exact lZ (Q:=Q) (Q':=ur P hint n ops Q []) (fun s H h=>h) _ _ h
theorem iF(m:Nat){H0:aa}{id:Nat}{s:Nat→AV}(hm:P.follows .mixedOrders=true)(hc:dK hint ops=true)(ht:dH ops m=true)
  (h:cH P hint n ops Q m ops.toList s H):cE P hint n H0 (.region id ops true) Q s H:=qX m hm hc ht (by rw[←nP];exact h)
end
section
variable (P:Program) (hint:Nat→Bool) (n:Nat) (ops:Array Oper) (Q:aQ) (rest:List Oper) (s:Nat→AV) (H:aa)
def ux(d:Option Tmp)(H0:aa):AV→aa→Prop:=fun r H'=>H'=H0∧bK P hint n ops Q rest (bp n s d r) H0
def BN:Value→aa→Prop:=fun _ _=>False
theorem AU(d:Option Tmp)(H0:aa)(r:AV):ux P hint n ops Q rest s d H0 r H=(H=H0∧bK P hint n ops Q rest (bp n s d r) H0):=rfl
theorem vm:bK P hint n ops Q [] s H=Q .normal s H:=rfl
theorem r8(d:Option Tmp)(op:Op)(ty:TypeId)(p:String)(af:Array Edge):bK P hint n ops Q (⟨d,op,ty,p,af,none⟩::rest) s H=aB P hint s H ⟨d,op,ty,p,af,none⟩ (ux P hint n ops Q rest s d H) BN:=rfl
theorem qA(d:Option Tmp)(op:Op)(ty:TypeId)(p:String)(af:Array Edge)(j:Nat)(b:Bool):
  bK P hint n ops Q (⟨d,op,ty,p,af,some (j,b)⟩::rest) s H=ob (fx ops s n j b) fun b'=>n9 b' (aB P hint s H ⟨d,op,ty,p,af,some (j,b)⟩ (ux P hint n ops Q rest s d H) BN) (H=H∧bK P hint n ops Q rest (bp n s d (.a7 [])) H):=by
 simp only[bK,cN,Da]
 cases fx ops s n j b with
 |none=>rfl
 |some b'=>cases b'<;>rfl
def sc(m:Nat)(d:Option Tmp)(H0:aa):AV→aa→Prop:=fun r H'=>H'=H0∧cH P hint n ops Q m rest (bp n s d r) H0
theorem wP(m:Nat)(d:Option Tmp)(H0:aa)(r:AV):sc P hint n ops Q rest s m d H0 r H=(H=H0∧cH P hint n ops Q m rest (bp n s d r) H0):=rfl
theorem qe(l:List Oper):cH P hint n ops Q 0 l s H=aN P hint n ops Q l s H:=by cases l<;>rfl
theorem qp(m:Nat)(d:Option Tmp)(op:Op)(ty:TypeId)(p:String)(af:Array Edge):cH P hint n ops Q (m+1) (⟨d,op,ty,p,af,none⟩::rest) s H=aB P hint s H ⟨d,op,ty,p,af,none⟩ (sc P hint n ops Q rest s m d H) BN:=rfl
theorem tV(m:Nat)(l:List Oper):cH P hint n ops Q m l.toArray.toList s H=cH P hint n ops Q m l s H:=rfl
theorem x9(l:List Oper):bK P hint n ops Q l.toArray.toList s H=bK P hint n ops Q l s H:=rfl
end
@[congr] theorem JC {P:Program} {hint:Nat→Bool} {n:Nat} {ops:Array Oper} {Q:aQ} {l:List Oper} {s:Nat→AV} {H H':aa} (h:nf H=H'):bK P hint n ops Q l s H=bK P hint n ops Q l s H':=by rw[←h];rfl
@[congr] theorem HA {P:Program} {hint:Nat→Bool} {n:Nat} {ops:Array Oper} {Q:aQ} {rest:List Oper} {s:Nat→AV} {d:Option Tmp} {H0 H H':aa} {r r':AV} (g:nf r=r') (h:nf H=H'):ux P hint n ops Q rest s d H0 r H=ux P hint n ops Q rest s d H0 r' H':=by rw[←g,←h];rfl
@[congr] theorem Ie {P:Program} {hint:Nat→Bool} {n:Nat} {ops:Array Oper} {Q:aQ} {m:Nat} {l:List Oper} {s:Nat→AV} {H H':aa} (h:nf H=H'):cH P hint n ops Q m l s H=cH P hint n ops Q m l s H':=by rw[←h];rfl
@[congr] theorem G3 {P:Program} {hint:Nat→Bool} {n:Nat} {ops:Array Oper} {Q:aQ} {rest:List Oper} {s:Nat→AV} {m:Nat} {d:Option Tmp} {H0 H H':aa} {r r':AV} (g:nf r=r') (h:nf H=H'):sc P hint n ops Q rest s m d H0 r H=sc P hint n ops Q rest s m d H0 r' H':=by rw[←g,←h];rfl
attribute [go_sem] wP qe qp tV
attribute [go_sem] AU vm r8 qA x9
end Go.Proofs.YtggohfhfocgilaaGreatAw
namespace Go.Proofs.YtggohfhfocgilaaGreat
open Go.Proofs.YtggohfhfocgilaaGreatAw Go.RowKit
abbrev iD(n:Int):D:= .v (.int .i64 n)
abbrev iA(n:Int):AV:= .d (.v (.int .i64 n))
abbrev bA(b:Bool):AV:= .d (.v (.bool b))
abbrev sA(b:ByteArray):AV:= .d (.v (.string b))
def ints(l:List Int):List (List D):=l.map fun x=>[.v (.int .i64 x)]
theorem ao(l:List Int):(ints l).length=l.length:=by simp[ints]
theorem c8(l:List Int)(n:Int):ints l++[[.v (.int .i64 n)]]=ints (l++[n]):=by simp[ints]
theorem bD(l:List Int)(k:Nat)(h:k<l.length):(ints l)[k]?=some [.v (.int .i64 l[k])]:=by simp[ints,h]
theorem jQ:ints []=[]:=rfl
theorem Ht:qG Tryz.prog 9=true:=by kernel_rfl
attribute [go_sem] Ht
end Go.Proofs.YtggohfhfocgilaaGreat
namespace Go.Proofs.YtggohfhfocgilaaGreatAw
def CP(f:Field):Bool×TypeId×Nat:=(f.name != "_",f.type,f.offset)
def zF(d:Nat)(xs ys:Array Value):List (Bool×TypeId×Nat)→Sem Bool
 |[]=>pure true
 |(true,t,off)::fs=>do
   let a←part t xs off
   let b←part t ys off
   let r←Op.equalIn d t a b
   if(!r)=true then pure false else zF d xs ys fs
 |(false,_,_)::fs=>zF d xs ys fs
theorem yf(d:Nat)(xs ys:Array Value):∀fs:List Field,Op.eqFields d xs ys fs=zF d xs ys (fs.map CP)
 |[]=>rfl
 |f::fs=>by
  simp only[Op.eqFields,List.map_cons,CP]
  rw[yf d xs ys fs]
  by_cases h:f.name= "_"
  ·simp[h,zF]
  ·have hb:(f.name != "_")=true:=by simp[h]
   rw[hb,if_pos h];rfl
theorem bN.Lc{P:Program}{t:TypeId}{xs ys:Array Value}{fs:List (Bool×TypeId×Nat)}{r:Bool}(h1:P.eqGuardType P.depth t=false)(h2:P.underlying t=some (.struct (P.fieldsOf t)))(h3:P.stoodInHeld t=false)
  (h4:(P.fieldsOf t).toList.map CP=fs) (h5:∀w,(zF 9999 xs ys fs).run P w= .ok r w):bN P .eql t (.agg xs) (.agg ys) (.bool r)∧bN P .neq t (.agg xs) (.agg ys) (.bool !r):=by
 refine⟨fun x y w=>?_,fun x y w=>?_⟩
 ·rw[Sem.run_bind,run_eqGuard_agg _ _ _ _ _ _ _ h1]
  simp only[Result.andThen_ok,run_eql_struct]
  rw[run_equalIn_struct w 9999 t _ _ h2 h3,yf,h4,h5]
  rfl
 ·rw[Sem.run_bind,run_eqGuard_agg _ _ _ _ _ _ _ h1]
  simp only[Result.andThen_ok,run_neq_struct]
  rw[run_equalIn_struct w 9999 t _ _ h2 h3,yf,h4,h5]
  rfl
theorem bN.inj{P:Program}{op:BinOp}{t:TypeId}{u v r r':Value}(h:bN P op t u v r)(h':bN P op t u v r'):r=r':=by
 have h1:=h (.const .nilIface) (.const .nilIface) default
 rw[h' (.const .nilIface) (.const .nilIface) default]at h1
 cases h1;rfl
theorem B8{P:Program}{op:BinOp}{t:TypeId}{xs ys:Array Value}{r:Value}(h:bN P op t (.agg xs) (.agg ys) r)(K:Value→Prop):cw P op t (.agg xs) (.agg ys) K=K r:=by
 have:cw P op t (.agg xs) (.agg ys) K=∃r,bN P op t (.agg xs) (.agg ys) r∧K r:=by unfold cw;rfl
 rw[this]
 exact propext ⟨fun⟨r',h',k⟩=>by rw[h.inj h'];exact k,fun k=>⟨r,h,k⟩⟩
section
variable {P:Program} {w:World} {d:Nat} {t:TypeId} {off:Nat} {xs ys:Array Value} {fs:List (Bool×TypeId×Nat)} {r:Bool}
theorem mu(hg:dr P t=some false){v:Value}(h:xs[off]?=some v):(part t xs off).run P w= .ok v w:=by
 unfold part
 rw[Sem.run_bind,dr.run hg]
 simp[h]
theorem vN{a b:Value}{q:Bool}(ha:(part t xs off).run P w= .ok a w)(hb:(part t ys off).run P w= .ok b w)(he:(Op.equalIn d t a b).run P w= .ok q w)(hr:(zF d xs ys fs).run P w= .ok r w):(zF d xs ys ((true,t,off)::fs)).run P w= .ok (q&&r) w:=by
 simp only[zF,Sem.run_bind,ha,hb,he,Result.andThen_ok]
 cases q
 ·simp
 ·simpa using hr
theorem El:(zF d xs ys []).run P w= .ok true w:=rfl
theorem y7{k:IntKind}{a b:Int}(hu:UK P t=some k)(hg:dr P t=some false)(ha:xs[off]?=some (.int k a))(hb:ys[off]?=some (.int k b))(hr:(zF (d+1) xs ys fs).run P w= .ok r w):(zF (d+1) xs ys ((true,t,off)::fs)).run P w= .ok ((a==b)&&r) w:=
 vN (mu hg ha) (mu hg hb) (run_equalIn_int w d t k k a b (UK.get hu)) hr
theorem Ec{a b:ByteArray}(hu:P.underlying t=some .string)(hg:dr P t=some false)(ha:xs[off]?=some (.string a))(hb:ys[off]?=some (.string b))(hr:(zF (d+1) xs ys fs).run P w= .ok r w):(zF (d+1) xs ys ((true,t,off)::fs)).run P w= .ok ((a.toList==b.toList)&&r) w:=
 vN (mu hg ha) (mu hg hb) (run_equalIn_string w d t a b hu) hr
end
end Go.Proofs.YtggohfhfocgilaaGreatAw
namespace Go.Proofs.YtggohfhfocgilaaGreat
open Go.Proofs.YtggohfhfocgilaaGreatAw Go.RowKit
def lQ(k i:Int)(s:ByteArray)(k' i':Int)(s':ByteArray):Bool:=(k==k')&&((i==i')&&((s.toList==s'.toList)&&true))
theorem Ex(w:World)(d:Nat)(k i:Int)(s:ByteArray)(k' i':Int)(s':ByteArray):(zF (d+1) #[.int .i64 k,.int .i64 i,.string s] #[.int .i64 k',.int .i64 i',.string s'] [(true,3,0),(true,2,1),(true,9,2)]).run Tryz.prog w= .ok (lQ k i s k' i' s') w:=
 y7 K.KT K.Iz rfl rfl (y7 K.KS K.Il rfl rfl (Ec K.KW K.Hr rfl rfl El))
theorem Fy(k i:Int)(s:ByteArray)(k' i':Int)(s':ByteArray):bN Tryz.prog .eql 100 (.agg #[.int .i64 k,.int .i64 i,.string s]) (.agg #[.int .i64 k',.int .i64 i',.string s']) (.bool (lQ k i s k' i' s'))∧
  bN Tryz.prog .neq 100 (.agg #[.int .i64 k,.int .i64 i,.string s]) (.agg #[.int .i64 k',.int .i64 i',.string s']) (.bool !(lQ k i s k' i' s')):=
 bN.Lc (by kernel_rfl) (by kernel_rfl) (by kernel_rfl) (by kernel_rfl) fun w=>Ex w 9998 k i s k' i' s'
theorem yF(k i:Int)(s:ByteArray)(k' i':Int)(s':ByteArray)(K:Value→Prop):cw Tryz.prog .eql 100 (.agg #[.int .i64 k,.int .i64 i,.string s]) (.agg #[.int .i64 k',.int .i64 i',.string s']) K=K (.bool (lQ k i s k' i' s')):=B8 (Fy ..).1 K
attribute [go_sem] yF
structure al where
 kind:Int
 i:Int
 s:ByteArray
deriving DecidableEq
structure Atom where
 dN:Int
 op:Int
 val:al
deriving DecidableEq
def al.enc(v:al):List D:=[.v (.int .i64 v.kind),.v (.int .i64 v.i),.v (.string v.s)]
def Atom.enc(a:Atom):List D:=[.v (.int .i64 a.dN),.v (.int .i64 a.op),.v (.int .i64 a.val.kind),.v (.int .i64 a.val.i),.v (.string a.val.s)]
theorem toList_inj{a b:ByteArray}(h:a.toList=b.toList):a=b:=by
 rw[ByteArray.toList_eq,ByteArray.toList_eq]at h
 obtain⟨⟨x⟩⟩:=a
 obtain⟨⟨y⟩⟩:=b
 simp_all
theorem ov(v w:al):lQ v.kind v.i v.s w.kind w.i w.s=decide (v=w):=by
 cases v with|mk k i s=>
 cases w with|mk k' i' s'=>
 rw[Bool.eq_iff_iff]
 simp only[lQ,Bool.and_true,Bool.and_eq_true,beq_iff_eq,decide_eq_true_eq,al.mk.injEq]
 exact⟨fun⟨a,b,c⟩=>⟨a,b,toList_inj c⟩,fun⟨a,b,c⟩=>⟨a,b,by rw[c]⟩⟩
def de(r:List al):List D:=[.list false (r.map al.enc)]
def bU(R:List (List al)):List (List D):=R.map de
theorem cr(R:List (List al)):(bU R).length=R.length:=by simp[bU]
theorem kp(R:List (List al))(k:Nat)(h:k<R.length):(bU R)[k]?=some [.list false (R[k].map al.enc)]:=by simp[bU,de,h]
def iJ(n:Int):Prop:=-9223372036854775808≤n∧n≤9223372036854775807
theorem iJ.of{n:Int}(h:(Lit.int .i64 n).wf=true):iJ n:=by
 have h:IntKind.i64.min≤n∧n≤IntKind.i64.max:=by simpa[Lit.wf]using h
 have h0:IntKind.i64.min=-9223372036854775808:=by decide
 have h1:IntKind.i64.max=9223372036854775807:=by decide
 exact⟨by omega,by omega⟩
theorem aX.iV{xs:List D}(h:aX [] xs):xs=[]:=by cases h;rfl
theorem aX.cons_inv{s:Sh}{ss:List Sh}{xs:List D}(h:aX (s::ss) xs):∃x xs',xs=x::xs'∧Fits s x∧aX ss xs':=by cases h with|cons h t=>exact⟨_,_,rfl,h,t⟩
theorem Fits.EU{k:IntKind}{d:D}(h:Fits (.int k) d):∃n,d= .v (.int k n)∧(Lit.int k n).wf=true:=by cases h with|int k n h=>exact⟨n,rfl,h⟩
theorem Fits.gK{d:D}(h:Fits (.int .i64) d):∃n,d= .v (.int .i64 n)∧iJ n:=by obtain⟨n,rfl,g⟩:=Fits.EU h;exact⟨n,rfl,.of g⟩
theorem Fits.Ea{d:D}(h:Fits .str d):∃s,d= .v (.string s)∧s.size≤140737488351232:=by cases h with|str s h=>exact⟨s,rfl,h⟩
theorem Fits.fI{b:Nat}{es:List Sh}{d:D}(h:Fits (.slice b es) d):∃l,d= .list false l∧l.length* b≤140737488351232∧∀e∈l,aX es e:=by cases h with|slice b es l h1 h2 h=>exact⟨l,rfl,h1,h⟩
theorem jd{α:Type}{enc:α→List D}{p:α→Prop}:∀{l:List (List D)},(∀e∈l,∃a,e=enc a∧p a)→∃la:List α,l=la.map enc∧∀a∈la,p a
 |[],_=>⟨[],rfl,fun a h=>by simp at h⟩
 |e::l,h=>by
  obtain⟨a,rfl,ha⟩:=h e (List.mem_cons_self ..)
  obtain⟨la,rfl,hl⟩:=jd (l:=l) fun e he=>h e (by simp[he])
  exact⟨a::la,rfl,fun b hb=>by rcases List.mem_cons.1 hb with rfl|hb;exact ha;exact hl b hb⟩
structure al.Ok (v:al):Prop where
 kind:iJ v.kind
 i:iJ v.i
 s:v.s.size≤140737488351232
structure Atom.Ok (a:Atom):Prop where
 dN:iJ a.dN
 op:iJ a.op
 val:a.val.Ok
def ug:List Sh:=[.int .i64,.int .i64,.str]
def tt:List Sh:=[.int .i64,.int .i64,.int .i64,.int .i64,.str]
theorem y9{ds:List D}(h:aX ug ds):∃v:al,ds=v.enc∧v.Ok:=by
 obtain⟨x,xs,rfl,hx,h⟩:=aX.cons_inv h
 obtain⟨y,xs,rfl,hy,h⟩:=aX.cons_inv h
 obtain⟨z,xs,rfl,hz,h⟩:=aX.cons_inv h
 cases aX.iV h
 obtain⟨k,rfl,hk⟩:=Fits.gK hx
 obtain⟨i,rfl,hi⟩:=Fits.gK hy
 obtain⟨s,rfl,hs⟩:=Fits.Ea hz
 exact⟨⟨k,i,s⟩,rfl,hk,hi,hs⟩
theorem Ca{ds:List D}(h:aX tt ds):∃a:Atom,ds=a.enc∧a.Ok:=by
 obtain⟨c,xs,rfl,hc,h⟩:=aX.cons_inv h
 obtain⟨o,xs,rfl,ho,h⟩:=aX.cons_inv h
 obtain⟨v,rfl,hv⟩:=y9 h
 obtain⟨k,rfl,hk⟩:=Fits.gK hc
 obtain⟨i,rfl,hi⟩:=Fits.gK ho
 exact⟨⟨k,i,v⟩,rfl,hk,hi,hv⟩
theorem iE{b:Nat}{d:D}(h:Fits (.slice b [.int .i64]) d):∃l:List Int,d= .list false (ints l)∧l.length* b≤140737488351232∧∀n∈l,iJ n:=by
 obtain⟨l,rfl,h1,h2⟩:=Fits.fI h
 obtain⟨la,rfl,h3⟩:=jd (enc:=fun n:Int=>[.v (.int .i64 n)]) (p:=iJ) fun e he=>by
  obtain⟨x,xs,rfl,hx,h⟩:=aX.cons_inv (h2 e he)
  cases aX.iV h
  obtain⟨n,rfl,hn⟩:=Fits.gK hx
  exact⟨n,rfl,hn⟩
 exact⟨la,rfl,by simpa using h1,h3⟩
theorem CJ{b:Nat}{d:D}(h:Fits (.slice b ug) d):∃l:List al,d= .list false (l.map al.enc)∧l.length* b≤140737488351232∧∀v∈l,v.Ok:=by
 obtain⟨l,rfl,h1,h2⟩:=Fits.fI h
 obtain⟨la,rfl,h3⟩:=jd (enc:=al.enc) (p:=al.Ok) fun e he=>y9 (h2 e he)
 exact⟨la,rfl,by simpa using h1,h3⟩
theorem AJ{b:Nat}{d:D}(h:Fits (.slice b tt) d):∃l:List Atom,d= .list false (l.map Atom.enc)∧l.length* b≤140737488351232∧∀v∈l,v.Ok:=by
 obtain⟨l,rfl,h1,h2⟩:=Fits.fI h
 obtain⟨la,rfl,h3⟩:=jd (enc:=Atom.enc) (p:=Atom.Ok) fun e he=>Ca (h2 e he)
 exact⟨la,rfl,by simpa using h1,h3⟩
theorem zw{P:Program}{t:TypeId}{x:AV}{shs:List Sh}(h:lL P t x)(hg:dr P t=some true)(hs:pY P 9 t=some shs):∃ds:List D,x= .agg (ds.map .d)∧aX shs ds:=by
 rcases h with⟨hg',_⟩|⟨_,shs',ds,hs',hf,rfl⟩
 ·rw[hg]at hg';cases hg'
 ·rw[hs]at hs';cases hs';exact⟨ds,rfl,hf⟩
def ic(l:List al):Nat:=(l.map fun v=>v.s.size).sum
def dR(R:List (List al)):Nat:=(R.map ic).sum
def c7(m b:Nat)(R:List (List al)):Bool:=decide (R.length≤m∧(∀r∈R,r.length≤8)∧dR R≤b)
theorem yz(R:List (List al))(k:Nat):dR (R.take k)≤dR R:=by
 have h:dR R=dR (R.take k)+dR (R.drop k):=by unfold dR;rw[←List.sum_append,←List.map_append,List.take_append_drop]
 omega
theorem u5(r:List al)(h:∀v∈r,v.s.size≤140737488351232):∀j,j≤r.length→ic (r.take j)≤j* 140737488351232
 |0,_=>by simp[ic]
 |j+1,hj=>by
  have:=u5 r h j (by omega)
  have h2:=h r[j] (List.getElem_mem _)
  rw[List.take_succ_eq_append_getElem (show j<r.length by omega)]
  simp only[ic,List.map_append,List.sum_append,List.map_cons,List.map_nil,List.sum_cons,List.sum_nil]at this⊢
  omega
theorem lK{m b:Nat}{R:List (List al)}(h:c7 m b R=true):R.length≤m∧∀r∈R,r.length≤8:=by
 unfold c7 at h
 have h:=of_decide_eq_true h
 exact⟨h.1,h.2.1⟩
theorem xi(R:List (List al))(nn:Bool)(hR:R.length≤100000000000000)(hr:∀r∈R,r.length≤100000000000000)(hs:∀r∈R,∀v∈r,v.s.size≤140737488351232)(H:aa):
  ag Tryz.prog 58 [.d (.list nn (bU R))] H (.ok (bA (c7 300 20000 R))) H:=by
 refine ag.ai (hint:=(fun _=>false)) Tryz.func58 (by kernel_rfl) rfl [2] (by kernel_rfl) (by decide) (by simp[Tryz.ntmps58]) ?_
 rw[Tryz.ntmps58]
 simp -implicitDefEqProofs only[go_sem]
 refine bu Tryz.prog _ _ _ (fun k s H'=>(k≤R.length∧H'=H∧(∀r∈R.take k,r.length≤8)∧dR (R.take k)≤20000+8* 140737488351232)∧s 0= .d (.list nn (bU R))∧s 3=iA (dR (R.take k))∧s 4=iA k) (fun k=>R.length-k) 0 (ak.refl _ _) ?_ ?_
 ·refine⟨⟨Nat.zero_le _,rfl,by simp,by simp[dR]⟩,?_⟩
  simp -implicitDefEqProofs only[↓reduceIte,go_sem,Nat.reduceLT,Nat.reduceEqDiff,reduceCtorEq,List.take_zero,dR]
  rfl
 rintro k s H' ⟨⟨hk,rfl,h8,hb⟩,t0,t3,t4⟩
 by_cases h1:k<R.length
 case neg=>
  obtain rfl:k=R.length:=by omega
  rw[List.take_length]at*
  have hf:c7 300 20000 R=(decide (R.length≤300)&&decide (dR R≤20000)):=by unfold c7;rw[Bool.eq_iff_iff];simp;exact fun _=>fun _=>h8
  rw[hf]
  generalize dR R=n at*
  by_cases h2:(R.length:Int)≤300
  case' pos=>by_cases h3:(n:Int)≤20000
  all_goals
   simp -implicitDefEqProofs only[↓reduceIte,go_sem,Nat.reduceLT,Nat.reduceEqDiff,reduceCtorEq,cr, *]
   refine an.aI ?_
   simp -implicitDefEqProofs only[↓reduceIte,go_sem,Nat.reduceLT]<;>simp<;>omega
 have hge:dR (R.take k)≤dR R:=yz R k
 by_cases h2:k≤300
 case neg=>
  have hf:c7 300 20000 R=false:=by unfold c7;simp;omega
  rw[hf]
  simp -implicitDefEqProofs only[↓reduceIte,go_sem,Nat.reduceLT,Nat.reduceEqDiff,reduceCtorEq,t0,t4,cr,eq_true h1,show ¬(k:Int)≤300 by omega,show ¬(R.length:Int)≤300 by omega]
  refine an.aI ?_
  simp -implicitDefEqProofs only[↓reduceIte,go_sem,Nat.reduceLT]
 by_cases h3:dR (R.take k)≤20000
 case neg=>
  have hf:c7 300 20000 R=false:=by unfold c7;simp;omega
  rw[hf]
  generalize dR (R.take k)=n at*
  by_cases h4:(R.length:Int)≤300
  all_goals
   simp -implicitDefEqProofs only[↓reduceIte,go_sem,Nat.reduceLT,Nat.reduceEqDiff,reduceCtorEq,t0,t3,t4,cr,eq_true h1,show(k:Int)≤300 by omega,show ¬(n:Int)≤20000 by omega,h4]
   refine an.aI ?_
   simp -implicitDefEqProofs only[↓reduceIte,go_sem,Nat.reduceLT]
 have hx:=kp R k h1
 have e1:dR (R.take (k+1))=dR (R.take k)+ic R[k]:=by unfold dR;rw[List.take_succ_eq_append_getElem h1,List.map_append,List.sum_append];simp only[List.map_cons,List.map_nil,List.sum_cons,List.sum_nil,Nat.add_zero]
 have e2:∀r∈R.take (k+1),r∈R.take k∨r=R[k]:=fun r h=>by rw[List.take_succ_eq_append_getElem h1]at h;exact(List.mem_append.1 h).imp id List.mem_singleton.1
 have hmem:=List.getElem_mem h1
 generalize dR (R.take k)=n at*
 generalize R[k]=r at*
 simp -implicitDefEqProofs only[↓reduceIte,go_sem,Nat.reduceLT,Nat.reduceEqDiff,reduceCtorEq,t0,t3,t4,cr,h1,show(k:Int)≤300 by omega,show(n:Int)≤20000 by omega,hx,List.length_map]
 by_cases h9:(8:Int)<r.length
 ·have hf:c7 300 20000 R=false:=by unfold c7;simp;intro _ h;have:=h r hmem;omega
  rw[hf]
  simp -implicitDefEqProofs only[go_sem,h9]
  refine an.aI ?_
  simp -implicitDefEqProofs only[↓reduceIte,go_sem,Nat.reduceLT]
 simp -implicitDefEqProofs only[go_sem,h9]
 have hb2:∀j,j≤r.length→ic (r.take j)≤j* 140737488351232:=fun j hj=>u5 r (hs r hmem) j hj
 refine aA (fun j s H''=>H''=H'∧s 0= .d (.list nn (bU R))∧s 3=iA ((n+ic (r.take j):Nat):Int)∧s 4=iA k∧s 5=iA j) r.length (by omega) (ak.refl _ _) ?_ ?_ ?_
 ·refine⟨rfl,?_⟩
  simp -implicitDefEqProofs only[↓reduceIte,go_sem,Nat.reduceLT,Nat.reduceEqDiff,reduceCtorEq,t0,t3,t4,List.take_zero,ic]
  simp
 ·rintro j s H'' hj hw ⟨rfl,t0,t3,t4,t5⟩
  have hv:(r.map al.enc)[j]?=some [.v (.int .i64 r[j].kind),.v (.int .i64 r[j].i),.v (.string r[j].s)]:=by rw[List.getElem?_map,List.getElem?_eq_getElem hj];rfl
  have e3:ic (r.take (j+1))=ic (r.take j)+r[j].s.size:=by unfold ic;rw[List.take_succ_eq_append_getElem hj,List.map_append,List.sum_append];simp only[List.map_cons,List.map_nil,List.sum_cons,List.sum_nil,Nat.add_zero]
  have q1:=hb2 (j+1) (by omega)
  rw[e3]at q1⊢
  generalize ic (r.take j)=y at*
  generalize r[j]=v at*
  obtain⟨z,hz⟩:∃z,z=n+y:=⟨_,rfl⟩
  rw[←hz]at t3
  simp -implicitDefEqProofs only[↓reduceIte,go_sem,Nat.reduceAdd,Nat.reduceLT,Nat.reduceLeDiff,Nat.reduceEqDiff,reduceCtorEq,t0,t3,t4,t5,hx,hj,hv,List.length_map]
  refine cl.same ⟨rfl,?_⟩
  simp -implicitDefEqProofs only[↓reduceIte,go_sem,Nat.reduceLT,Nat.reduceEqDiff,reduceCtorEq,t0,t4,hw,show IntKind.i64.wrap ((z:Int)+(v.s.size:Int))=((n+(y+v.s.size):Nat):Int) by rw[wrap64_in _ (by omega) (by omega)];omega]
 ·rintro s H'' ⟨rfl,t0,t3,t4,t5⟩
  rw[List.take_length]at t3
  have q1:=hb2 r.length (Nat.le_refl _)
  rw[List.take_length]at q1
  generalize ic r=y at*
  obtain⟨z,hz⟩:∃z,z=n+y:=⟨_,rfl⟩
  rw[←hz]at t3 e1
  simp -implicitDefEqProofs only[↓reduceIte,go_sem,Nat.reduceAdd,Nat.reduceMul,Nat.reduceLT,Nat.reduceEqDiff,reduceCtorEq,t0,t4,t5,hx,List.length_map]
  refine⟨_,_,k+1,ak.refl _ _,⟨⟨h1,rfl,fun r' h=>?_,by rw[e1];omega⟩,?_⟩,by omega⟩
  ·rcases e2 r' h with h|rfl
   ·exact h8 r' h
   ·omega
  ·simp -implicitDefEqProofs only[↓reduceIte,go_sem,Nat.reduceLT,Nat.reduceEqDiff,reduceCtorEq,t0,t3,e1,wrap64_in ((k:Int)+1) (by omega) (by omega)]
end Go.Proofs.YtggohfhfocgilaaGreat

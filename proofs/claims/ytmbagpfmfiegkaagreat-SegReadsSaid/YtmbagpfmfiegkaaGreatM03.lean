/- Contracts of functions and lemmas for segReads_holds, part 3. -/
import Derived.Laws.StructEq
import Derived.Laws.Externs
import Derived.Laws.Bits64b
import Derived.Laws.Bits64
import Derived.Recover
import Derived.Test.YtmbagpfmfiegkaaGreatM02
set_option maxHeartbeats 8000000
set_option maxRecDepth 100000
set_option linter.all false
namespace Go.Proofs.YtmbagpfmfiegkaaGreatAw
open Go.RowKit
section
variable {P:Program} {hint:Nat→Bool} {s s':Nat→AV} {H:aa}
theorem F5{op:BinOp}{t:TypeId}{u v:Value}{K:Value→Prop}(h:dE P op t u v K):∃r,K r∧∀K',K' r→dE P op t u v K':=by
 unfold dE at h⊢
 repeat' (split at h)
 all_goals first|exact h.elim|exact⟨_,h,fun K' g=>g⟩|exact⟨_,h.2,fun K' g=>⟨h.1,g⟩⟩|exact⟨_,h.2.2,fun K' g=>⟨h.1,h.2.1,g⟩⟩|(obtain⟨r,h1,h2⟩:=h;first|exact⟨r,h2,fun K' g=>⟨r,h1,g⟩⟩|exact⟨r,h2,fun K' g=>by simp_all;exact⟨r,h1,g⟩⟩)
theorem IC{op:UnOp}{u:Value}{K:Value→Prop}(h:FK op u K):∃r,K r∧∀K',K' r→FK op u K':=by
 cases op<;>cases u<;>first|exact h.elim|exact⟨_,h,fun K' g=>g⟩|exact⟨_,h.2,fun K' g=>⟨h.1,g⟩⟩
theorem oW{b:Builtin}{args:List Operand}{tys:List TypeId}{K:AV→aa→Prop}(h:df P s H b args tys K):∃r H',K r H'∧∀K',K' r H'→df P s H b args tys K':=by
 unfold df at h⊢
 repeat' (split at h)
 all_goals first|exact h.elim|(exact(show False from by first|exact h.2|exact h.2.2|exact h.2.2.2|exact h.2.2.2.2).elim)|exact⟨_,_,h,fun K' g=>g⟩|exact⟨_,_,h.2,fun K' g=>⟨h.1,g⟩⟩|exact⟨_,_,h.2.2,fun K' g=>⟨h.1,h.2.1,g⟩⟩|exact⟨_,_,h.2.2.2,fun K' g=>⟨h.1,h.2.1,h.2.2.1,g⟩⟩|exact⟨_,_,h.2.2.2.2.2,fun K' g=>⟨h.1,h.2.1,h.2.2.1,h.2.2.2.1,h.2.2.2.2.1,g⟩⟩|exact⟨_,_,h.2.2.2.2.2.2,fun K' g=>⟨h.1,h.2.1,h.2.2.1,h.2.2.2.1,h.2.2.2.2.1,h.2.2.2.2.2.1,g⟩⟩
theorem A9{k:Nat}{lo:Option Int}{hi:Nat→Option Int}{x:AV}{K:AV→aa→Prop}(h:eB H k lo hi K x):∃r H',K r H'∧∀K',K' r H'→eB H k lo hi K' x:=by
 cases x with
 |d u=>
  cases u with
  |v _=>exact h.elim
  |list nn es=>
   simp only[eB]at h⊢
   obtain⟨h0,h⟩:=h
   cases lo with
   |none=>exact h.elim
   |some l=>
    cases hq:hi es.length with
    |none=>rw[hq]at h;exact h.elim
    |some m=>rw[hq]at h;exact⟨_,_,h.2.2.2,fun K' g=>⟨h0,h.1,h.2.1,h.2.2.1,g⟩⟩
 |sl id ver off len=>
  simp only[eB]at h⊢
  cases ho:H[id]? with
  |none=>rw[ho]at h;exact h.elim
  |some o=>
   rw[ho]at h
   cases lo with
   |none=>exact h.elim
   |some l=>
    cases hq:hi len with
    |none=>rw[hq]at h;exact h.elim
    |some m=>rw[hq]at h;exact⟨_,_,h.2.2.2.2.2,fun K' g=>⟨h.1,h.2.1,h.2.2.1,h.2.2.2.1,h.2.2.2.2.1,g⟩⟩
 |_=>exact h.elim
theorem x7{k:Nat}{lo hi mx:Option Int}{x:AV}{K:AV→aa→Prop}(h:iq H k lo hi mx K x):∃r H',K r H'∧∀K',K' r H'→iq H k lo hi mx K' x:=by
 cases x with
 |d u=>
  cases u with
  |v _=>exact h.elim
  |list nn es=>cases lo<;>cases hi<;>cases mx<;>first|exact h.2.elim|exact⟨_,_,h.2.2.2.2.2,fun K' g=>⟨h.1,h.2.1,h.2.2.1,h.2.2.2.1,h.2.2.2.2.1,g⟩⟩
 |_=>exact h.elim
theorem zh{n:Nat}{x:AV}{K:AV→aa→Prop}(h:zw H n K x):∃r H',K r H'∧∀K',K' r H'→zw H n K' x:=by
 cases x with
 |dt ds=>exact⟨_,_,h.2,fun K' g=>⟨h.1,g⟩⟩
 |_=>exact h.elim
theorem yl{t:TypeId}{ok:Bool}{v:Option Value}{K:AV→aa→Prop}(h:ga P t ok H K v):∃r H',K r H'∧∀K',K' r H'→ga P t ok H K' v:=by
 unfold ga at h⊢
 cases e:mB P t ok v with
 |none=>rw[e]at h;exact h.2.elim
 |some r=>rw[e]at h;exact⟨_,_,h.2,fun K' g=>⟨h.1,g⟩⟩
def mw(hint:Nat→Bool):Op→Bool
 | .next _ _=>false
 | .call c=>(match c.callee with| .value _=> !hint 3000000|_=>true)
 |_=>true
theorem Ir{hi:Bool}{op:Op}{K:AV→aa→Prop}(hd:mw hint op=true)(h:iQ P s H hi op K):∃r H',K r H'∧∀K',K' r H'→iQ P s H hi op K':=by
 unfold iQ at h⊢
 repeat' (split at h)
 all_goals first|exact h.elim|(cases hd;done)|(obtain⟨h1,id,e',h2,h3⟩:=h;exact⟨_,_,h3,fun K' g=>by rw[if_pos (by assumption)];exact⟨h1,id,e',h2,g⟩⟩)|(exact⟨_,_,h.2,fun K' g=>by rw[if_neg (by assumption)];exact⟨h.1,g⟩⟩)|(obtain⟨h1,h2,h⟩:=h;obtain⟨r,H',g1,g2⟩:=zh h;exact⟨r,H',g1,fun K' g=>⟨h1,h2,g2 K' g⟩⟩)|(exact(show False from by first|exact h.2|exact h.2.2|exact h.2.2.2|exact h.2.2.2.2).elim)|exact⟨_,_,h,fun K' g=>g⟩|exact⟨_,_,h.2,fun K' g=>⟨h.1,g⟩⟩|exact⟨_,_,h.2.2,fun K' g=>⟨h.1,h.2.1,g⟩⟩|exact⟨_,_,h.2.2.2,fun K' g=>⟨h.1,h.2.1,h.2.2.1,g⟩⟩|exact⟨_,_,h.2.2.2.2.2.2,fun K' g=>⟨h.1,h.2.1,h.2.2.1,h.2.2.2.1,h.2.2.2.2.1,h.2.2.2.2.2.1,g⟩⟩|exact⟨_,_,h.2.2.2.2,fun K' g=>⟨h.1,h.2.1,h.2.2.1,h.2.2.2.1,g⟩⟩|exact oW h|
  (obtain⟨r,h1,h2⟩:=F5 h;exact⟨_,_,h1,fun K' g=>h2 _ g⟩)|(obtain⟨r,h1,h2⟩:=IC h;exact⟨_,_,h1,fun K' g=>h2 _ g⟩)|exact A9 h|exact x7 h|exact yl h|(obtain⟨h1,h2,h⟩:=h;obtain⟨r,H',g1,g2⟩:=zh h;exact⟨r,H',g1,fun K' g=>⟨h1,h2,g2 K' g⟩⟩)|skip
 all_goals first|(exfalso;simp_all;done)|exact⟨_,_,h,fun K' g=>by rw[if_pos (by assumption)];exact g⟩|exact⟨_,_,h,fun K' g=>by rw[if_neg (by assumption)];exact g⟩|exact⟨_,_,h.2,fun K' g=>by rw[if_pos (by assumption)];exact⟨h.1,g⟩⟩|exact⟨_,_,h.2,fun K' g=>⟨h.1,by first|(rw[if_pos (by assumption)];exact g)|(rw[if_neg (by assumption)];exact g)⟩⟩|
  exact⟨_,_,h.2,fun K' g=>by rw[if_neg (by assumption)];exact⟨h.1,by first|(rw[if_pos (by assumption)];exact g)|(rw[if_neg (by assumption)];exact g)⟩⟩|trace_state
theorem ij{o:Oper}{K:AV→aa→Prop}(hdo:mw hint o.op=true)(h:aN P hint s H o K (fun _ _=>False)):∃r H',K r H'∧∀K' KP',K' r H'→aN P hint s H o K' KP':=by
 unfold aN at h⊢
 split at h
 ·split at h<;>exact h.elim
 ·split at h
  ·split at h
   ·obtain⟨res,H',hd,h⟩:=h
    cases res with
    |ok r=>exact⟨r,H',h,fun K' KP' g=>⟨.ok r,H',hd,g⟩⟩
    |panic v=>exact h.elim
   ·exfalso
    have h1:=h.1
    clear h
    simp_all [mw]
   ·exact h.elim
  ·obtain⟨r,H',h1,h2⟩:=oW h
   exact⟨r,H',h1,fun K' KP' g=>h2 _ g⟩
  ·exact h.elim
 ·obtain⟨r,H',h1,h2⟩:=Ir hdo h
  exact⟨r,H',h1,fun K' KP' g=>h2 _ g⟩
theorem zi{x:Operand}(h:∀t,x= .tmp t→s t=s' t):ao s x=ao s' x:=by
 cases x with
 |tmp t=>exact h t rfl
 |_=>rfl
def l8(o:Oper):List Tmp:=o.op.operands.toList.filterMap fun| .tmp t=>some t|_=>none
theorem Cp{o:Oper}(h:∀t∈l8 o,s t=s' t)(x:Operand)(hx:x∈o.op.operands):ao s x=ao s' x:=
 zi fun t ht=>h t (by subst ht;exact List.mem_filterMap.2 ⟨_,Array.mem_toList_iff.2 hx,rfl⟩)
theorem vQ{parts:Array (Nat×Operand)}(h:∀p∈parts.toList,ao s p.2=ao s' p.2):dz s parts=dz s' parts:=by
 unfold dz
 exact List.map_congr_left fun p hp=>by rw[h p hp]
theorem jX{k:IntKind}:∀{xs:List Operand},(∀x∈xs,ao s x=ao s' x)→dy s k xs=dy s' k xs
 |[],_=>rfl
 |x::xs,h=>by
  unfold dy
  rw[h x (by simp),jX fun y hy=>h y (by simp[hy])]
theorem js{b:Builtin}{args:List Operand}{tys:List TypeId}{K:AV→aa→Prop}(h:∀x∈args,ao s x=ao s' x):df P s H b args tys K=df P s' H b args tys K:=by
 unfold df
 split
 ·rw[h _ (by simp)]
 ·rw[h _ (by simp),h _ (by simp)]
 ·rw[h _ (by simp)]
 ·rw[h _ (by simp),h _ (by simp)]
 ·rename_i x xs
  rw[h x (by simp)]
  have e:∀k,dy s k xs=dy s' k xs:=fun k=>jX fun y hy=>h y (by simp[hy])
  simp only[e]
 ·rename_i x xs
  rw[h x (by simp)]
  have e:∀k,dy s k xs=dy s' k xs:=fun k=>jX fun y hy=>h y (by simp[hy])
  simp only[e]
 ·rfl
theorem E4{hi:Bool}{op:Op}{K:AV→aa→Prop}(h:∀x∈op.operands,ao s x=ao s' x):iQ P s H hi op K=iQ P s' H hi op K:=by
 unfold iQ
 split
 all_goals first
  |rfl
  |(have e:=vQ (s:=s) (s':=s') fun p hp=>h p.2 (by simp only[Op.operands,List.mem_toArray,List.mem_map];exact⟨p,hp,rfl⟩);simp only[e];done)
  |exact js fun x hx=>h x (by simp only[Op.operands,Call.operands];exact Array.mem_append.2 (.inr (Array.mem_toList_iff.1 hx)))
  |(split
    ·exact js fun x hx=>h x (by simp only[Op.operands,Call.operands];exact Array.mem_append.2 (.inr (Array.mem_toList_iff.1 hx)))
    ·rfl)
  |(rename_i x lo hi' mx
    have e0:ao s x=ao s' x:=h _ (by simp[Op.operands])
    have e2:bO s (some hi')=bO s' (some hi'):=by simp only[bO];rw[h hi' (by simp[Op.operands])]
    have e3:bO s (some mx)=bO s' (some mx):=by simp only[bO];rw[h mx (by simp[Op.operands])]
    have e1:bO s lo=bO s' lo:=by
     cases lo with
     |none=>rfl
     |some y=>simp only[bO];rw[h y (by simp[Op.operands])]
    rw[e0,e1,e2,e3];done)
  |(rename_i x xT t ok;rw[h x (by simp[Op.operands])];done)
  |(rename_i x lo hi'
    have e0:ao s x=ao s' x:=h _ (by simp[Op.operands])
    have e1:bO s lo=bO s' lo:=by
     cases lo with
     |none=>rfl
     |some y=>simp only[bO];rw[h y (by simp[Op.operands])]
    have e2:∀n,eg s n hi'=eg s' n hi':=by
     intro n
     cases hi' with
     |none=>rfl
     |some y=>simp only[eg];rw[h y (by simp[Op.operands])]
    first|(simp only[e0,e1,e2];done)|(simp only[e0,e1,funext e2];done))
  |(simp[Op.operands]at h;simp only[h];done)
  |(rename_i caps;rw[List.map_congr_left fun x hx=>h x (by simp only[Op.operands];exact Array.mem_append.2 (.inr (Array.mem_toList_iff.1 hx)))];done)
  |skip
 all_goals
  rename_i x lo hi'
  have e0:ao s x=ao s' x:=h _ (by simp[Op.operands])
  have e1:bO s lo=bO s' lo:=by
   cases lo with
   |none=>rfl
   |some y=>simp only[bO];rw[h y (by simp[Op.operands])]
  have e2:∀n,eg s n hi'=eg s' n hi':=by
   intro n
   cases hi' with
   |none=>rfl
   |some y=>simp only[eg];rw[h y (by simp[Op.operands])]
  simp only[e0,e1,e2,H8]
theorem jK{o:Oper}{K:AV→aa→Prop}{KP:Value→aa→Prop}(h:∀t∈l8 o,s t=s' t):aN P hint s H o K KP=aN P hint s' H o K KP:=by
 have h':=Cp h
 unfold aN
 split
 ·rename_i x hx
  rw[h' x (by rw[hx];simp[Op.operands])]
 ·rename_i c hc
  have hm:∀x∈c.operands,ao s x=ao s' x:=fun x hx=>h' x (by rw[hc];exact hx)
  split
  ·rename_i f hf
   have e1:ao s f=ao s' f:=hm f (by simp[Call.operands,hf])
   have e2:c.args.toList.map (ao s)=c.args.toList.map (ao s'):=List.map_congr_left fun x hx=>hm x (by simp only[Call.operands];exact Array.mem_append.2 (.inr (Array.mem_toList_iff.1 hx)))
   rw[e1,e2]
  ·exact js fun x hx=>hm x (by simp only[Call.operands];exact Array.mem_append.2 (.inr (Array.mem_toList_iff.1 hx)))
  ·rfl
 ·exact E4 h'
end
def bV(ops:Array Oper)(j:Nat):Option Tmp:=(ops[j]?).bind (·.dst)
def bM(o:Oper)(j:Nat):Bool:=o.after.toList.any fun e=>Region.binds .any e&&e.on==j
def dG(ops:Array Oper):Nat→Nat→Nat→Bool
 |0,_,_=>false
 |fuel+1,i,j=>match ops[i]? with
  |none=>false
  |some o=>bM o j||(List.range i).any fun k=>bM o k&&dG ops fuel k j
def fN(hint:Nat→Bool)(ops:Array Oper):Bool:=(List.range ops.size).all fun i=>match ops[i]? with
 |none=>true
 |some o=>(o.after.toList.all fun e=> !Region.binds .any e||decide (e.on<i))&&((l8 o).all fun t=>(List.range ops.size).all fun j=> !(bV ops j==some t)||(bM o j||(match ops[j]? with|some oj=>bM oj i|none=>false)))&&
  (match o.guard with|some (j,_)=>bM o j|none=>true)&&mw hint o.op&&((List.range ops.size).all fun j=>j==i||(bV ops i).isNone|| !(bV ops j==bV ops i))
structure s6 (hint:Nat→Bool) (ops:Array Oper):Prop where
 down:∀(i:Nat) (o:Oper),ops[i]?=some o→∀e∈o.after,Region.binds .any e=true→e.on<i
 reads:∀(i:Nat) (o:Oper),ops[i]?=some o→∀t∈l8 o,∀j,bV ops j=some t→bM o j=true∨∃oj,ops[j]?=some oj∧bM oj i=true
 guard:∀(i:Nat) (o:Oper),ops[i]?=some o→∀j w,o.guard=some (j,w)→bM o j=true
 Mb:∀(i:Nat) (o:Oper),ops[i]?=some o→mw hint o.op=true
 once:∀(i j:Nat) (t:Tmp),bV ops i=some t→bV ops j=some t→i=j
theorem fW{ops:Array Oper}{j:Nat}{t:Tmp}(h:bV ops j=some t):j<ops.size:=by
 unfold bV at h
 obtain⟨o,ho,_⟩:=Option.bind_eq_some_iff.1 h
 exact(Array.getElem?_eq_some_iff.1 ho).1
theorem dF{hint:Nat→Bool}{ops:Array Oper}(h:fN hint ops=true):s6 hint ops:=by
 unfold fN at h
 rw[List.all_eq_true]at h
 have key:∀i o,ops[i]?=some o→((o.after.toList.all fun e=> !Region.binds .any e||decide (e.on<i))=true∧((l8 o).all fun t=>(List.range ops.size).all fun j=> !(bV ops j==some t)||(bM o j||(match ops[j]? with|some oj=>bM oj i|none=>false)))=true∧
   (match o.guard with|some (j,_)=>bM o j|none=>true)=true∧mw hint o.op=true)∧((List.range ops.size).all fun j=>j==i||(bV ops i).isNone|| !(bV ops j==bV ops i))=true:=by
  intro i o ho
  have:=h i (List.mem_range.2 (Array.getElem?_eq_some_iff.1 ho).1)
  simp only[ho,Bool.and_eq_true]at this
  exact⟨⟨this.1.1.1.1,this.1.1.1.2,this.1.1.2,this.1.2⟩,this.2⟩
 refine⟨fun i o ho e he hbe=>?_,fun i o ho t ht j hj=>?_,fun i o ho j w hg=>?_,fun i o ho=>(key i o ho).1.2.2.2,fun i j t hi hj=>?_⟩
 ·have:=(key i o ho).1.1
  rw[List.all_eq_true]at this
  simpa[hbe]using this e (Array.mem_toList_iff.2 he)
 ·have:=(key i o ho).1.2.1
  rw[List.all_eq_true]at this
  have:=this t ht
  rw[List.all_eq_true]at this
  have:=this j (List.mem_range.2 (fW hj))
  have hjl:=fW hj
  have hoj:ops[j]?=some ops[j]:=by simp[hjl]
  rw[hj,hoj]at this
  simp only[beq_self_eq_true,Bool.not_true,Bool.false_or,Bool.or_eq_true]at this
  rcases this with h|h
  ·exact .inl h
  ·exact .inr ⟨_,hoj,h⟩
 ·have:=(key i o ho).1.2.2.1
  simpa[hg]using this
 ·obtain⟨o,ho,_⟩:=Option.bind_eq_some_iff.1 (show(ops[i]?).bind (·.dst)=some t from hi)
  have:=(key i o ho).2
  rw[List.all_eq_true]at this
  have:=this j (List.mem_range.2 (fW hj))
  simp[hi,hj]at this
  exact this.symm
section
variable (P:Program) (hint:Nat→Bool) (n:Nat) (ops:Array Oper)
def jP(H:aa)(s:Nat→AV)(o:Oper)(r:AV):Prop:=match o.guard with
 |none=>∀K KP,K r H→aN P hint s H o K KP
 |some (j,want)=>∃b,iP ops s n j want=some b∧if b=true then ∀K KP,K r H→aN P hint s H o K KP else r= .bz []
def cV(Q:bH):List Oper→(Nat→AV)→aa→Prop
 |[],s,H=>Q .normal s H
 |o::rest,s,H=>ek P hint n ops (fun _ _ _=>False) o (fun s' H'=>H'=H∧cV Q rest s' H) s H
def cd(s:Nat→AV)(rs:Nat→AV):Nat→(Nat→AV)
 |0=>s
 |k+1=>cv n (cd s rs k) (bV ops k) (rs k)
end
section
variable (P:Program) (hint:Nat→Bool) (n:Nat) (ops:Array Oper)
def yr(Q:bH)(l:List Oper):bH:=fun e s H=>match e with| .normal=>bK P hint n ops Q l s H|_=>False
def dX(Q:bH):Nat→List Oper→(Nat→AV)→aa→Prop
 |0,l,s,H=>bK P hint n ops Q l s H
 |_+1,[],s,H=>bK P hint n ops Q [] s H
 |m+1,o::rest,s,H=>ek P hint n ops (fun _ _ _=>False) o (fun s' H'=>H'=H∧dX Q m rest s' H) s H
end
theorem qs{P:Program}{hint:Nat→Bool}{n:Nat}{ops:Array Oper}{Q:bH}:∀(m:Nat) (l:List Oper) (s:Nat→AV) (H:aa),dX P hint n ops Q m l s H=cV P hint n ops (yr P hint n ops Q (l.drop m)) (l.take m) s H
 |0,l,s,H=>by simp[dX,cV,yr]
 |m+1,[],s,H=>by simp[dX,cV,yr]
 |m+1,o::rest,s,H=>by
  have e:∀s' H,dX P hint n ops Q m rest s' H=_:=fun s' H=>qs m rest s' H
  simp only[dX,List.drop_succ_cons,List.take_succ_cons,cV,e]
theorem oB{P:Program}{hint:Nat→Bool}{n:Nat}{ops:Array Oper}{Q Q':bH}(hq:∀s H,Q .normal s H→Q' .normal s H):∀(l:List Oper) (s:Nat→AV) {H:aa},cV P hint n ops Q l s H→cV P hint n ops Q' l s H
 |[],s,H,h=>hq _ _ h
 |o::rest,s,H,h=>by
  unfold cV at h⊢
  exact kQ (fun _ _ _ h=>h) (fun s' H' h'=>⟨h'.1,oB hq rest s' h'.2⟩) h
section
variable {P:Program} {hint:Nat→Bool} {n:Nat} {ops:Array Oper} {H:aa} {Q:bH}
theorem jP.op{s:Nat→AV}{o:Oper}{r:AV}(h:jP P hint n ops H s o r){K:(Nat→AV)→aa→Prop}(hk:K (cv n s o.dst r) H):ek P hint n ops Q o K s H:=by
 unfold jP at h
 unfold ek
 split at h
 ·rename_i hg
  try simp only[hg]
  exact h (fun r H'=>K (cv n s o.dst r) H') _ hk
 ·rename_i j want hg
  obtain⟨b,hb,h⟩:=h
  simp only[hg,hb]
  split at h
  ·rw[if_pos (by assumption)];exact h (fun r H'=>K (cv n s o.dst r) H') _ hk
  ·rw[if_neg (by assumption)];rw[h]at hk;exact hk
theorem jP.congr{s s':Nat→AV}{o:Oper}{r:AV}(h:jP P hint n ops H s o r)(h1:∀t∈l8 o,s t=s' t)(h2:∀j w,o.guard=some (j,w)→∀d,bV ops j=some d→s d=s' d):jP P hint n ops H s' o r:=by
 unfold jP at h⊢
 split at h
 ·rename_i hg
  try simp only[hg]
  intro K KP hk
  rw[←jK h1]
  exact h K KP hk
 ·rename_i j want hg
  try simp only[hg]
  obtain⟨b,hb,h⟩:=h
  refine⟨b,?_,?_⟩
  ·rw[←hb]
   unfold iP
   have:=h2 j want hg
   unfold bV at this
   cases hd:(ops[j]?).bind (·.dst)with
   |none=>rfl
   |some d=>simp only[this d hd]
  ·split at h
   ·rw[if_pos (by assumption)]
    intro K KP hk
    rw[←jK h1]
    exact h K KP hk
   ·rw[if_neg (by assumption)];exact h
theorem mY(hdt:∀(i:Nat) (o:Oper),ops[i]?=some o→mw hint o.op=true)(m:Nat)(hm:m≤ops.size)(s0:Nat→AV)(rs0:Nat→AV):∀(l:List Oper) (k:Nat),l=(ops.toList.take m).drop k→k≤m→cV P hint n ops Q l (cd n ops s0 rs0 k) H→
  ∃rs,(∀i,i<k→rs i=rs0 i)∧(∀i o,k≤i→i<m→ops[i]?=some o→jP P hint n ops H (cd n ops s0 rs i) o (rs i))∧Q .normal (cd n ops s0 rs m) H
 |[],k,hl,hk,h=>by
  have:m≤k:=by have:=congrArg List.length hl;simp at this;omega
  have hk':k=m:=by omega
  subst hk'
  exact⟨rs0,fun _ _=>rfl,fun i o hi hi2 ho=>absurd hi2 (by omega),h⟩
 |o::rest,k,hl,hk,h=>by
  have hlt:k<m:=by have:=congrArg List.length hl;simp at this;omega
  have ho:ops[k]?=some o:=by
   have:((ops.toList.take m).drop k)[0]?=some o:=by rw[←hl];rfl
   simpa[List.getElem?_take,hlt]using this
  have hrest:rest=(ops.toList.take m).drop (k+1):=by rw[←List.drop_drop];rw[←hl];rfl
  have hdst:bV ops k=o.dst:=by simp[bV,ho]
  have step:∃r,jP P hint n ops H (cd n ops s0 rs0 k) o r∧cV P hint n ops Q rest (cv n (cd n ops s0 rs0 k) o.dst r) H:=by
   unfold cV ek at h
   split at h
   ·rename_i hg
    obtain⟨r,H',⟨rfl,hr⟩,hdet⟩:=ij (hdt k o ho) h
    exact⟨r,by unfold jP;simp only[hg];exact fun K KP hk=>hdet K KP hk,hr⟩
   ·rename_i j want hg
    split at h
    ·rename_i b hb
     split at h
     ·rename_i hbw
      obtain⟨r,H',⟨rfl,hr⟩,hdet⟩:=ij (hdt k o ho) h
      exact⟨r,by unfold jP;simp only[hg];exact⟨b,hb,by rw[if_pos hbw];exact fun K KP hk=>hdet K KP hk⟩,hr⟩
     ·rename_i hbw
      exact⟨.bz [],by unfold jP;simp only[hg];exact⟨b,hb,by simp[hbw]⟩,h.2⟩
    ·exact h.elim
  obtain⟨r,hr,hnext⟩:=step
  let rs1:Nat→AV:=fun i=>if i=k then r else rs0 i
  have hst:∀i,i≤k→cd n ops s0 rs1 i=cd n ops s0 rs0 i:=by
   intro i
   induction i with
   |zero=>intro _;rfl
   |succ i ih=>
    intro hi
    simp only[cd,ih (by omega)]
    have:rs1 i=rs0 i:=by show(if i=k then r else rs0 i)=_;rw[if_neg (by omega)]
    rw[this]
  have hk1:rs1 k=r:=by show(if k=k then r else _)=r;rw[if_pos rfl]
  have h':cV P hint n ops Q rest (cd n ops s0 rs1 (k+1)) H:=by
   simp only[cd,hst k (Nat.le_refl _),hk1,hdst]
   exact hnext
  obtain⟨rs,h1,h2,h3⟩:=mY hdt m hm s0 rs1 rest (k+1) hrest hlt h'
  have hst2:∀i,i≤k→cd n ops s0 rs i=cd n ops s0 rs0 i:=by
   intro i
   induction i with
   |zero=>intro _;rfl
   |succ i ih=>
    intro hi
    simp only[cd,ih (by omega)]
    have e1:rs i=rs1 i:=h1 i (by omega)
    have e2:rs1 i=rs0 i:=by show(if i=k then r else rs0 i)=_;rw[if_neg (by omega)]
    rw[e1,e2]
  refine⟨rs,fun i hi=>?_,fun i o' hi hi2 ho'=>?_,h3⟩
  ·rw[h1 i (by omega)];show(if i=k then r else rs0 i)=_;rw[if_neg (by omega)]
  ·rcases Nat.lt_or_ge k i with hki|hki
   ·exact h2 i o' hki hi2 ho'
   ·obtain rfl:i=k:=by omega
    rw[ho]at ho'
    cases ho'
    rw[hst2 i (Nat.le_refl _),h1 i (by omega),hk1]
    exact hr
theorem pO{p q:Nat→Bool}{i:Nat}(hpq:∀j,p j=true→q j=true)(hp:p i=false)(hq:q i=true):∀l:List Nat,i∈l→l.countP p<l.countP q
 |[],h=>by simp at h
 |x::l,h=>by
  have hle:l.countP p≤l.countP q:=List.countP_mono_left fun j _=>hpq j
  rw[List.countP_cons,List.countP_cons]
  by_cases hx:i=x
  ·subst hx
   simp[hp,hq];omega
  ·have:=pO hpq hp hq l (by simpa[hx]using h)
   by_cases hpx:p x=true
   ·simp[hpx,hpq x hpx];omega
   ·simp[hpx];omega
theorem wY{listed:Array Bool}{o:Oper}{j:Nat}(h1:(o.after.all fun e=> !Region.binds .any e||listed.getD e.on false)=true)(h2:bM o j=true):listed.getD j false=true:=by
 unfold bM at h2
 rw[List.any_eq_true]at h2
 obtain⟨e,he,h2⟩:=h2
 rw[Array.all_eq_true_iff_forall_mem]at h1
 have:=h1 e (Array.mem_toList_iff.1 he)
 simp only[Bool.and_eq_true,beq_iff_eq]at h2
 simpa[h2.1,h2.2]using this
theorem iY{m0:Nat}(hc:s6 hint ops)(htl:∀i o,ops[i]?=some o→m0<i→bM o (i-1)=true):∀{fuel:Nat} {listed:Array Bool} {s:Nat→AV} {H:aa},listed.size=ops.size→∀m,m0≤m→m≤ops.size→
  (∀i,i<m→listed.getD i true=true)→(∀i,m≤i→i<ops.size→listed.getD i false=false)→bK P hint n ops Q (ops.toList.drop m) s H→ops.size-m≤fuel→iM P hint n ops Q fuel listed s H:=by
 intro fuel
 induction fuel with
 |zero=>
  intro listed s H hsz m hm0 hm hall hno h hf
  have:m=ops.size:=by omega
  subst this
  rw[List.drop_of_length_le (by simp)]at h
  refine⟨?_,h⟩
  unfold Region.ready
  rw[List.filter_eq_nil_iff]
  intro i hi
  simp only[hall i (List.mem_range.1 hi),Bool.not_true,Bool.false_and,Bool.false_eq_true,not_false_eq_true]
 |succ fuel ih=>
  intro listed s H hsz m hm0 hm hall hno h hf
  rcases Nat.lt_or_ge m ops.size with hlt|hge
  ·have hget:ops[m]?=some ops[m]:=by simp[hlt]
   have hun:listed.getD m true=false:=by
    have:=hno m (Nat.le_refl _) hlt
    simpa[Array.getD,show m<listed.size by omega]using this
   have hd:ops.toList.drop m=ops[m]::ops.toList.drop (m+1):=by
    rw[List.drop_eq_getElem_cons (by simpa using hlt)];simp
   rw[hd]at h
   refine⟨fun hr=>?_,fun i hi=>?_⟩
   ·exfalso
    have:m∈Region.ready .any ops listed:=by
     unfold Region.ready
     rw[List.mem_filter]
     refine⟨List.mem_range.2 hlt,?_⟩
     simp only[hun,hget,Bool.not_false,Bool.true_and,Option.map_some,Option.getD_some]
     rw[Array.all_eq_true_iff_forall_mem]
     intro e he
     cases hbe:Region.binds .any e
     ·simp
     have hl:=hc.down m _ hget e he hbe
     have:=hall e.on hl
     have:listed.getD e.on false=true:=by simpa[Array.getD,show e.on<listed.size by omega]using this
     simp[this]
    rw[hr]at this
    simp at this
   ·unfold Region.ready at hi
    rw[List.mem_filter]at hi
    obtain⟨hi,hrd⟩:=hi
    have hi:=List.mem_range.1 hi
    have hgeti:ops[i]?=some ops[i]:=by simp[hi]
    simp only[hgeti,Option.map_some,Option.getD_some,Bool.and_eq_true,Bool.not_eq_true']at hrd
    obtain⟨hu,haft⟩:=hrd
    have him:i=m:=by
     rcases Nat.lt_trichotomy i m with h1|h1|h1
     ·rw[hall i h1]at hu;cases hu
     ·exact h1
     ·have:=wY haft (htl i _ hgeti (by omega))
      rw[hno (i-1) (by omega) (by omega)]at this
      cases this
    subst him
    simp only[hget]
    have hset:∀j b,(listed.setIfInBounds i true).getD j b=if j=i then true else listed.getD j b:=by
     intro j b
     simp only[Array.getD_eq_getD_getElem?,Array.getElem?_setIfInBounds]
     by_cases e:i=j
     ·subst e;simp[hsz,hi]
     ·rw[if_neg e,if_neg (Ne.symm e)]
    refine kQ (fun _ _ _ h=>h) (fun s' H' h'=>?_) h
    refine ih (by simpa using hsz) (i+1) (by omega) hi (fun j hj=>?_) (fun j hj hj2=>?_) h' (by omega)
    ·rw[hset]
     by_cases e:j=i
     ·rw[if_pos e]
     ·rw[if_neg e];exact hall j (by omega)
    ·rw[hset,if_neg (by omega)]
     exact hno j (by omega) hj2
  ·have:m=ops.size:=by omega
   subst this
   rw[List.drop_of_length_le (by simp)]at h
   refine⟨fun _=>h,fun i hi=>?_⟩
   unfold Region.ready at hi
   rw[List.mem_filter]at hi
   obtain⟨hi,hrd⟩:=hi
   rw[hall i (List.mem_range.1 hi)]at hrd
   simp at hrd
theorem ir{L:Nat→Bool}(hcl:∀j oj i,ops[j]?=some oj→L j=true→bM oj i=true→L i=true):∀(fuel:Nat) (i:Nat) (o:Oper),ops[i]?=some o→
  (∀j,bM o j=true→L j=true)→∀j,dG ops fuel i j=true→L j=true
 |0,i,o,ho,hb,j,h=>by simp[dG]at h
 |fuel+1,i,o,ho,hb,j,h=>by
  simp only[dG,ho,Bool.or_eq_true,List.any_eq_true,Bool.and_eq_true]at h
  rcases h with h|⟨k,_,h1,h2⟩
  ·exact hb j h
  ·have hk:=hb k h1
   cases hok:ops[k]? with
   |none=>cases fuel<;>simp[dG,hok]at h2
   |some ok=>exact ir hcl fuel k ok hok (fun j' hj'=>hcl k ok j' hok hk hj') j h2
theorem nb{listed:Array Bool}(hcl:∀j oj i,ops[j]?=some oj→listed.getD j false=true→bM oj i=true→listed.getD i false=true)(fuel:Nat)(i:Nat)(o:Oper)(ho:ops[i]?=some o)
  (hb:∀j,bM o j=true→listed.getD j false=true) (j:Nat) (h:dG ops fuel i j=true):listed.getD j false=true:=ir (L:=fun c=>listed.getD c false) hcl fuel i o ho hb j h
theorem wb(hc:s6 hint ops)(m:Nat)(hm:m≤ops.size)(htl:∀i o,ops[i]?=some o→(i=m→∀j,j<m→dG ops 12 i j=true)∧(m<i→bM o (i-1)=true))(s:Nat→AV)(rs:Nat→AV)(hs:∀i o,i<m→ops[i]?=some o→jP P hint n ops H (cd n ops s rs i) o (rs i))(hQ:bK P hint n ops Q (ops.toList.drop m) (cd n ops s rs m) H):
  ∀(fuel:Nat) (listed:Array Bool) (s':Nat→AV),listed.size=ops.size→(List.range ops.size).countP (fun j=> !listed.getD j true)≤fuel→
   (∀t j,bV ops j=some t→s' t=if listed.getD j false=true then(if t<n then rs j else .top)else s t)→(∀t,(∀j,bV ops j≠some t)→s' t=s t)→
   (∀j oj i,ops[j]?=some oj→listed.getD j false=true→bM oj i=true→listed.getD i false=true)→(∀i,m≤i→i<ops.size→listed.getD i false=false)→iM P hint n ops Q fuel listed s' H:=by
 have st_no:∀k t,(∀j,j<k→bV ops j≠some t)→cd n ops s rs k t=s t:=by
  intro k t
  induction k with
  |zero=>intro _;rfl
  |succ k ih=>
   intro h
   simp only[cd]
   cases hd:bV ops k with
   |none=>exact ih fun j hj=>h j (by omega)
   |some d=>
    simp only[cv]
    have:t≠d:=fun e=>h k (by omega) (by rw[hd,e])
    rw[if_neg this]
    exact ih fun j hj=>h j (by omega)
 have st_dst:∀k t j,bV ops j=some t→j<k→cd n ops s rs k t=if t<n then rs j else .top:=by
  intro k t j hj
  induction k with
  |zero=>intro h;omega
  |succ k ih=>
   intro h
   simp only[cd]
   by_cases e:j=k
   ·subst e
    rw[hj]
    simp only[cv,if_pos]
   ·have:=ih (by omega)
    cases hd:bV ops k with
    |none=>exact this
    |some d=>
     simp only[cv]
     have hne:t≠d:=fun e'=>e (hc.once j k t hj (by rw[hd,e']))
     rw[if_neg hne]
     exact this
 have bind_of:∀(listed:Array Bool) (o:Oper) (j:Nat),(o.after.all fun e=> !Region.binds .any e||listed.getD e.on false)=true→bM o j=true→listed.getD j false=true:=by
  intro listed o j h1 h2
  unfold bM at h2
  rw[List.any_eq_true]at h2
  obtain⟨e,he,h2⟩:=h2
  rw[Array.all_eq_true_iff_forall_mem]at h1
  have:=h1 e (Array.mem_toList_iff.1 he)
  simp only[Bool.and_eq_true,beq_iff_eq]at h2
  simpa[h2.1,h2.2]using this
 have fin:∀(listed:Array Bool) (s':Nat→AV),(∀i,i<m→listed.getD i true=true)→(∀i,m≤i→i<ops.size→listed.getD i false=false)→listed.size=ops.size→
   (∀t j,bV ops j=some t→s' t=if listed.getD j false=true then(if t<n then rs j else .top)else s t)→(∀t,(∀j,bV ops j≠some t)→s' t=s t)→s'=cd n ops s rs m:=by
  intro listed s' hall hno hsz h1 h2
  funext t
  by_cases hd:∃j,bV ops j=some t
  ·obtain⟨j,hj⟩:=hd
   have hjl:=fW hj
   rcases Nat.lt_or_ge j m with hjm|hjm
   ·have:listed.getD j false=true:=by
     have:=hall j hjm
     simpa[Array.getD,show j<listed.size by omega]using this
    rw[h1 t j hj,if_pos this,st_dst _ t j hj hjm]
   ·rw[h1 t j hj,if_neg (by simp[hno j hjm hjl]),st_no m t fun j' hj' hd'=>by
     have:=hc.once j' j t hd' hj
     omega]
  ·have hd':∀j,bV ops j≠some t:=fun j hj=>hd ⟨j,hj⟩
   rw[h2 t hd',st_no _ t fun j _=>hd' j]
 intro fuel
 induction fuel with
 |zero=>
  intro listed s' hsz hcnt h1 h2 hcl hno
  have hall:∀i,i<ops.size→listed.getD i true=true:=by
   intro i hi
   have h0:(List.range ops.size).countP (fun j=> !listed.getD j true)=0:=by omega
   rw[List.countP_eq_zero]at h0
   simpa using h0 i (List.mem_range.2 hi)
  have hs':=fin listed s' (fun i hi=>hall i (by omega)) hno hsz h1 h2
  subst hs'
  exact iY hc (fun i o ho hi=>(htl i o ho).2 hi) hsz m (Nat.le_refl _) hm (fun i hi=>hall i (by omega)) (fun i hi hi2=>hno i hi hi2) hQ (by
   rcases Nat.lt_or_ge m ops.size with h|h
   ·have e1:=hall m h
    have e2:=hno m (Nat.le_refl _) h
    simp[Array.getD,show m<listed.size by omega]at e1 e2
    rw[e1]at e2
    cases e2
   ·omega)
 |succ fuel ih=>
  intro listed s' hsz hcnt h1 h2 hcl hno
  by_cases hpre:∀i,i<m→listed.getD i true=true
  ·have hs':=fin listed s' hpre hno hsz h1 h2
   subst hs'
   refine iY hc (fun i o ho hi=>(htl i o ho).2 hi) hsz m (Nat.le_refl _) hm hpre hno hQ ?_
   have hsub:(List.range ops.size).countP (fun j=>decide (m≤j))≤(List.range ops.size).countP (fun j=> !listed.getD j true):=by
    refine List.countP_mono_left fun j hj hmj=>?_
    have hj:=List.mem_range.1 hj
    have:=hno j (by simpa using hmj) hj
    simp[Array.getD,show j<listed.size by omega]at this⊢
    exact this
   have hcm:∀N,m≤N→(List.range N).countP (fun j=>decide (m≤j))=N-m:=by
    intro N hN
    induction N with
    |zero=>simp
    |succ N ihN=>
     rw[List.range_succ,List.countP_append,List.countP_singleton]
     by_cases e:m≤N
     ·rw[ihN e];simp[e];omega
     ·have e':m=N+1:=by omega
      have:(List.range N).countP (fun j=>decide (m≤j))=0:=by
       rw[List.countP_eq_zero]
       intro j hj
       have:=List.mem_range.1 hj
       simp;omega
      rw[this];simp[e];omega
   rw[hcm _ hm]at hsub
   omega
  have hex:∃i,i<m∧listed.getD i true=false∧∀j,j<i→listed.getD j true=true:=by
   have:∃i,i<m∧listed.getD i true=false:=by
    rcases Classical.not_forall.1 hpre with⟨i,hi⟩
    rcases Classical.not_imp.1 hi with⟨h1,h2⟩
    exact⟨i,h1,by simpa using h2⟩
   obtain⟨i,hi⟩:=this
   induction i using Nat.strongRecOn with
   |_ i ihi=>
    by_cases hj:∃j,j<i∧listed.getD j true=false
    ·obtain⟨j,hj1,hj2⟩:=hj
     exact ihi j hj1 ⟨by omega,hj2⟩
    ·refine⟨i,hi.1,hi.2,fun j hji=>?_⟩
     cases hq:listed.getD j true with
     |true=>rfl
     |false=>exact absurd ⟨j,hji,hq⟩ hj
  obtain⟨i0,hi0,hu0,hb0⟩:=hex
  refine⟨fun hr=>?_,fun i hi=>?_⟩
  ·exfalso
   have hlt0:i0<ops.size:=by omega
   have hget:ops[i0]?=some ops[i0]:=by simp[hlt0]
   have:i0∈Region.ready .any ops listed:=by
    unfold Region.ready
    rw[List.mem_filter]
    refine⟨List.mem_range.2 hlt0,?_⟩
    simp only[hu0,hget,Bool.not_false,Bool.true_and,Option.map_some,Option.getD_some]
    rw[Array.all_eq_true_iff_forall_mem]
    intro e he
    cases hbe:Region.binds .any e
    ·simp
    have hlt:=hc.down i0 _ hget e he hbe
    have:=hb0 e.on hlt
    have:listed.getD e.on false=true:=by simpa[Array.getD,show e.on<listed.size by omega]using this
    simp[this]
   rw[hr]at this
   simp at this
  ·unfold Region.ready at hi
   rw[List.mem_filter]at hi
   obtain⟨hi,hrd⟩:=hi
   have hi:=List.mem_range.1 hi
   have hget:ops[i]?=some ops[i]:=by simp[hi]
   simp only[hget,Option.map_some,Option.getD_some,Bool.and_eq_true,Bool.not_eq_true']at hrd
   obtain⟨hun,haft⟩:=hrd
   simp only[hget]
   have hdst:bV ops i=(ops[i]).dst:=by simp[bV,hget]
   have hun':listed.getD i false=false:=by simpa[Array.getD,show i<listed.size by omega]using hun
   have him:i<m:=by
    rcases Nat.lt_or_ge i m with h|h
    ·exact h
    ·exfalso
     have hu0':listed.getD i0 false=false:=by simpa[Array.getD,show i0<listed.size by omega]using hu0
     rcases Nat.lt_or_ge m i with h2|h2
     ·have:=bind_of listed ops[i] (i-1) haft ((htl i _ hget).2 h2)
      rw[hno (i-1) (by omega) (by omega)]at this
      cases this
     ·have him:i=m:=by omega
      have:=nb hcl 12 i _ hget (fun j hj=>bind_of listed ops[i] j haft hj) i0 ((htl i _ hget).1 him i0 hi0)
      rw[this]at hu0'
      cases hu0'
   have agree:∀t j,bV ops j=some t→bM ops[i] j=true→cd n ops s rs i t=s' t:=by
    intro t j hj hb
    have hl:=bind_of listed ops[i] j haft hb
    have hlt:j<i:=by
     unfold bM at hb
     rw[List.any_eq_true]at hb
     obtain⟨e,he,hb⟩:=hb
     simp only[Bool.and_eq_true,beq_iff_eq]at hb
     have:=hc.down i _ hget e (Array.mem_toList_iff.1 he) hb.1
     omega
    rw[st_dst i t j hj hlt,h1 t j hj,if_pos hl]
   refine jP.op ((hs i _ him hget).congr (fun t ht=>?_) fun j w hg d hd=>agree d j hd (hc.guard i _ hget j w hg)) ?_
   ·by_cases hd:∃j,bV ops j=some t
    ·obtain⟨j,hj⟩:=hd
     rcases hc.reads i _ hget t ht j hj with hb|⟨oj,hoj,hb⟩
     ·exact agree t j hj hb
     ·have hnl:listed.getD j false=false:=by
       cases hq:listed.getD j false with
       |false=>rfl
       |true=>rw[hcl j oj i hoj hq hb]at hun';cases hun'
      have hlt:i<j:=by
       unfold bM at hb
       rw[List.any_eq_true]at hb
       obtain⟨e,he,hb⟩:=hb
       simp only[Bool.and_eq_true,beq_iff_eq]at hb
       have:=hc.down j _ hoj e (Array.mem_toList_iff.1 he) hb.1
       omega
      rw[h1 t j hj,if_neg (by simp[hnl]),st_no i t fun j' hj' hd'=>by
       have:=hc.once j' j t hd' hj
       omega]
    ·have hd':∀j,bV ops j≠some t:=fun j hj=>hd ⟨j,hj⟩
     rw[st_no i t fun j _=>hd' j,h2 t hd']
   ·have hset:∀j b,(listed.setIfInBounds i true).getD j b=if j=i then true else listed.getD j b:=by
     intro j b
     simp only[Array.getD_eq_getD_getElem?,Array.getElem?_setIfInBounds]
     by_cases e:i=j
     ·subst e;simp[hsz,hi]
     ·rw[if_neg e,if_neg (Ne.symm e)]
    refine ih _ _ (by simpa using hsz) ?_ ?_ ?_ ?_ ?_
    ·have:=pO (p:=fun j=> !(listed.setIfInBounds i true).getD j true) (q:=fun j=> !listed.getD j true) (i:=i) (fun j hj=>by
      simp only[hset]at hj⊢
      by_cases e:j=i
      ·simp[e]at hj
      ·simpa[e]using hj) (by simp[hset]) (by simp[hun]) (List.range ops.size) (List.mem_range.2 hi)
     omega
    ·intro t j hj
     rw[hset]
     by_cases e:j=i
     ·subst e
      rw[hdst]at hj
      rw[if_pos rfl,if_pos rfl,hj]
      simp only[cv,if_pos]
     ·rw[if_neg e]
      cases hd:(ops[i]).dst with
      |none=>exact h1 t j hj
      |some d=>
       simp only[cv]
       have:t≠d:=fun e'=>e (hc.once j i t hj (by rw[hdst,hd,e']))
       rw[if_neg this]
       exact h1 t j hj
    ·intro t ht
     cases hd:(ops[i]).dst with
     |none=>exact h2 t ht
     |some d=>
      simp only[cv]
      have:t≠d:=fun e'=>ht i (by rw[hdst,hd,e'])
      rw[if_neg this]
      exact h2 t ht
    ·intro j oj i' hoj hlj hb
     rw[hset]at hlj⊢
     by_cases e':i'=i
     ·rw[if_pos e']
     ·rw[if_neg e']
      by_cases e:j=i
      ·subst e
       rw[hget]at hoj
       cases hoj
       exact bind_of listed _ i' haft hb
      ·rw[if_neg e]at hlj
       exact hcl j oj i' hoj hlj hb
    ·intro j hj hj2
     rw[hset,if_neg (by omega)]
     exact hno j hj hj2
def fH(ops:Array Oper)(m:Nat):Bool:=decide (m≤ops.size)&&(List.range ops.size).all fun i=>decide (i<m)||if i=m then(List.range m).all fun j=>dG ops 12 i j else match ops[i]? with
 |none=>true
 |some o=>bM o (i-1)
theorem gL{m:Nat}(h:fH ops m=true):m≤ops.size∧∀i o,ops[i]?=some o→(i=m→∀j,j<m→dG ops 12 i j=true)∧(m<i→bM o (i-1)=true):=by
 unfold fH at h
 simp only[Bool.and_eq_true,decide_eq_true_eq,List.all_eq_true]at h
 refine⟨h.1,fun i o ho=>?_⟩
 have:=h.2 i (List.mem_range.2 (Array.getElem?_eq_some_iff.1 ho).1)
 refine⟨fun e j hj=>?_,fun hi=>?_⟩
 ·subst e
  simp only[Nat.lt_irrefl,decide_false,Bool.false_or,if_true,List.all_eq_true]at this
  exact this j (List.mem_range.2 hj)
 ·have h1:¬i<m:=by omega
  have h2:¬i=m:=by omega
  simpa only[h1,h2,decide_false,Bool.false_or,if_false,ho]using this
theorem vo(m:Nat){H0:aa}{id:Nat}{s:Nat→AV}(hm:P.follows .mixedOrders=true)(hc:fN hint ops=true)(ht:fH ops m=true)
  (h:cV P hint n ops (yr P hint n ops Q (ops.toList.drop m)) (ops.toList.take m) s H):dQ P hint n H0 (.region id ops true) Q s H:=by
 obtain⟨hms,htl⟩:=gL ht
 refine⟨hm,?_⟩
 obtain⟨rs,_,h2,h3⟩:=mY (dF hc).Mb m hms s (fun _=> .top) (ops.toList.take m) 0 rfl (Nat.zero_le _) h
 refine wb (dF hc) m hms htl s rs (fun i o hi ho=>h2 i o (Nat.zero_le _) hi ho) h3 ops.size (Array.replicate ops.size false) s (by simp) ?_ ?_ ?_ ?_ ?_
 ·exact Nat.le_trans List.countP_le_length (by simp)
 ·intro t j hj
  have hjl:=fW hj
  rw[if_neg (by simp[Array.getD,hjl])]
 ·intro t _;rfl
 ·intro j oj i hoj hl
  have hjl:=(Array.getElem?_eq_some_iff.1 hoj).1
  simp[Array.getD,hjl]at hl
 ·intro i hi hi2
  simp[Array.getD,hi2]
theorem aO{H0:aa}{id:Nat}{s:Nat→AV}(hm:P.follows .mixedOrders=true)(hc:fN hint ops=true)(h:cV P hint n ops Q ops.toList s H):dQ P hint n H0 (.region id ops true) Q s H:=by
 refine vo ops.size hm hc ?_ ?_
 ·unfold fH
  simp only[Nat.le_refl,decide_true,Bool.true_and,List.all_eq_true]
  intro i hi
  simp[List.mem_range.1 hi]
 ·have e1:ops.toList.drop ops.size=[]:=List.drop_of_length_le (by simp)
  have e2:ops.toList.take ops.size=ops.toList:=List.take_of_length_le (by simp)
  rw[e1,e2]
  exact oB (Q:=Q) (Q':=yr P hint n ops Q []) (fun s H h=>h) _ _ h
theorem ig(m:Nat){H0:aa}{id:Nat}{s:Nat→AV}(hm:P.follows .mixedOrders=true)(hc:fN hint ops=true)(ht:fH ops m=true)
  (h:dX P hint n ops Q m ops.toList s H):dQ P hint n H0 (.region id ops true) Q s H:=vo m hm hc ht (by rw[←qs];exact h)
end
section
variable (P:Program) (hint:Nat→Bool) (n:Nat) (ops:Array Oper) (Q:bH) (rest:List Oper) (s:Nat→AV) (H:aa)
def yA(d:Option Tmp)(H0:aa):AV→aa→Prop:=fun r H'=>H'=H0∧cV P hint n ops Q rest (cv n s d r) H0
def F3:Value→aa→Prop:=fun _ _=>False
theorem Ee(d:Option Tmp)(H0:aa)(r:AV):yA P hint n ops Q rest s d H0 r H=(H=H0∧cV P hint n ops Q rest (cv n s d r) H0):=rfl
theorem zZ:cV P hint n ops Q [] s H=Q .normal s H:=rfl
theorem wZ(d:Option Tmp)(op:Op)(ty:TypeId)(p:String)(af:Array Edge):cV P hint n ops Q (⟨d,op,ty,p,af,none⟩::rest) s H=aN P hint s H ⟨d,op,ty,p,af,none⟩ (yA P hint n ops Q rest s d H) F3:=rfl
theorem tT(d:Option Tmp)(op:Op)(ty:TypeId)(p:String)(af:Array Edge)(j:Nat)(b:Bool):
  cV P hint n ops Q (⟨d,op,ty,p,af,some (j,b)⟩::rest) s H=ob (iP ops s n j b) fun b'=>qT b' (aN P hint s H ⟨d,op,ty,p,af,some (j,b)⟩ (yA P hint n ops Q rest s d H) F3) (H=H∧cV P hint n ops Q rest (cv n s d (.bz [])) H):=by
 simp only[cV,ek,H8]
 cases iP ops s n j b with
 |none=>rfl
 |some b'=>cases b'<;>rfl
def xk(m:Nat)(d:Option Tmp)(H0:aa):AV→aa→Prop:=fun r H'=>H'=H0∧dX P hint n ops Q m rest (cv n s d r) H0
theorem Ca(m:Nat)(d:Option Tmp)(H0:aa)(r:AV):xk P hint n ops Q rest s m d H0 r H=(H=H0∧dX P hint n ops Q m rest (cv n s d r) H0):=rfl
theorem tU(l:List Oper):dX P hint n ops Q 0 l s H=bK P hint n ops Q l s H:=by cases l<;>rfl
theorem ud(m:Nat)(d:Option Tmp)(op:Op)(ty:TypeId)(p:String)(af:Array Edge):dX P hint n ops Q (m+1) (⟨d,op,ty,p,af,none⟩::rest) s H=aN P hint s H ⟨d,op,ty,p,af,none⟩ (xk P hint n ops Q rest s m d H) F3:=rfl
theorem Ah(m:Nat)(l:List Oper):dX P hint n ops Q m l.toArray.toList s H=dX P hint n ops Q m l s H:=rfl
theorem BK(l:List Oper):cV P hint n ops Q l.toArray.toList s H=cV P hint n ops Q l s H:=rfl
end
@[congr] theorem MZ {P:Program} {hint:Nat→Bool} {n:Nat} {ops:Array Oper} {Q:bH} {l:List Oper} {s:Nat→AV} {H H':aa} (h:nf H=H'):cV P hint n ops Q l s H=cV P hint n ops Q l s H':=by rw[←h];rfl
@[congr] theorem Mo {P:Program} {hint:Nat→Bool} {n:Nat} {ops:Array Oper} {Q:bH} {rest:List Oper} {s:Nat→AV} {d:Option Tmp} {H0 H H':aa} {r r':AV} (g:nf r=r') (h:nf H=H'):yA P hint n ops Q rest s d H0 r H=yA P hint n ops Q rest s d H0 r' H':=by rw[←g,←h];rfl
@[congr] theorem L6 {P:Program} {hint:Nat→Bool} {n:Nat} {ops:Array Oper} {Q:bH} {m:Nat} {l:List Oper} {s:Nat→AV} {H H':aa} (h:nf H=H'):dX P hint n ops Q m l s H=dX P hint n ops Q m l s H':=by rw[←h];rfl
@[congr] theorem Lo {P:Program} {hint:Nat→Bool} {n:Nat} {ops:Array Oper} {Q:bH} {rest:List Oper} {s:Nat→AV} {m:Nat} {d:Option Tmp} {H0 H H':aa} {r r':AV} (g:nf r=r') (h:nf H=H'):xk P hint n ops Q rest s m d H0 r H=xk P hint n ops Q rest s m d H0 r' H':=by rw[←g,←h];rfl
attribute [go_sem] Ca tU ud Ah
attribute [go_sem] Ee zZ wZ tT BK
end Go.Proofs.YtmbagpfmfiegkaaGreatAw
namespace Go.Proofs.YtmbagpfmfiegkaaGreat
open Go.Proofs.YtmbagpfmfiegkaaGreatAw Go.RowKit
abbrev iD(n:Int):D:= .v (.int .i64 n)
abbrev iA(n:Int):AV:= .d (.v (.int .i64 n))
abbrev bA(b:Bool):AV:= .d (.v (.bool b))
abbrev uA(n:Int):AV:= .d (.v (.int .u64 n))
abbrev sA(b:ByteArray):AV:= .d (.v (.string b))
theorem MB:ua Tryz.prog 9=true:=by kernel_rfl
attribute [go_sem] MB
end Go.Proofs.YtmbagpfmfiegkaaGreat
namespace Go.Proofs.YtmbagpfmfiegkaaGreatAw
def Ds(f:Field):Bool×TypeId×Nat:=(f.name != "_",f.type,f.offset)
def yC(d:Nat)(xs ys:Array Value):List (Bool×TypeId×Nat)→Sem Bool
 |[]=>pure true
 |(true,t,off)::fs=>do
   let a←part t xs off
   let b←part t ys off
   let r←Op.equalIn d t a b
   if(!r)=true then pure false else yC d xs ys fs
 |(false,_,_)::fs=>yC d xs ys fs
theorem xz(d:Nat)(xs ys:Array Value):∀fs:List Field,Op.eqFields d xs ys fs=yC d xs ys (fs.map Ds)
 |[]=>rfl
 |f::fs=>by
  simp only[Op.eqFields,List.map_cons,Ds]
  rw[xz d xs ys fs]
  by_cases h:f.name= "_"
  ·simp[h,yC]
  ·have hb:(f.name != "_")=true:=by simp[h]
   rw[hb,if_pos h];rfl
theorem cy.Oy{P:Program}{t:TypeId}{xs ys:Array Value}{fs:List (Bool×TypeId×Nat)}{r:Bool}(h1:P.eqGuardType P.depth t=false)(h2:P.underlying t=some (.struct (P.fieldsOf t)))(h3:P.stoodInHeld t=false)
  (h4:(P.fieldsOf t).toList.map Ds=fs) (h5:∀w,(yC 9999 xs ys fs).run P w= .ok r w):cy P .eql t (.agg xs) (.agg ys) (.bool r)∧cy P .neq t (.agg xs) (.agg ys) (.bool !r):=by
 refine⟨fun x y w=>?_,fun x y w=>?_⟩
 ·rw[Sem.run_bind,run_eqGuard_agg _ _ _ _ _ _ _ h1]
  simp only[Result.andThen_ok,run_eql_struct]
  rw[run_equalIn_struct w 9999 t _ _ h2 h3,xz,h4,h5]
  rfl
 ·rw[Sem.run_bind,run_eqGuard_agg _ _ _ _ _ _ _ h1]
  simp only[Result.andThen_ok,run_neq_struct]
  rw[run_equalIn_struct w 9999 t _ _ h2 h3,xz,h4,h5]
  rfl
theorem cy.inj{P:Program}{op:BinOp}{t:TypeId}{u v r r':Value}(h:cy P op t u v r)(h':cy P op t u v r'):r=r':=by
 have h1:=h (.const .nilIface) (.const .nilIface) default
 rw[h' (.const .nilIface) (.const .nilIface) default]at h1
 cases h1;rfl
theorem nV{P:Program}{op:BinOp}{t:TypeId}{xs ys:Array Value}{r:Value}(h:cy P op t (.agg xs) (.agg ys) r)(K:Value→Prop):dE P op t (.agg xs) (.agg ys) K=K r:=by
 have:dE P op t (.agg xs) (.agg ys) K=∃r,cy P op t (.agg xs) (.agg ys) r∧K r:=by unfold dE;rfl
 rw[this]
 exact propext ⟨fun⟨r',h',k⟩=>by rw[h.inj h'];exact k,fun k=>⟨r,h,k⟩⟩
section
variable {P:Program} {w:World} {d:Nat} {t:TypeId} {off:Nat} {xs ys:Array Value} {fs:List (Bool×TypeId×Nat)} {r:Bool}
theorem eP(hg:gT P t=some false){v:Value}(h:xs[off]?=some v):(part t xs off).run P w= .ok v w:=by
 unfold part
 rw[Sem.run_bind,gT.run hg]
 simp[h]
theorem zA(hg:gT P t=some true){z:Value}{k b:Nat}(hz:TI P t=some (z,k,b)):(part t xs off).run P w= .ok (.agg (xs.extract off (off+k))) w:=by
 unfold part
 rw[Sem.run_bind,gT.run hg]
 simp[TI.sizeOf hz]
theorem rE{a b:Value}{q:Bool}(ha:(part t xs off).run P w= .ok a w)(hb:(part t ys off).run P w= .ok b w)(he:(Op.equalIn d t a b).run P w= .ok q w)(hr:(yC d xs ys fs).run P w= .ok r w):(yC d xs ys ((true,t,off)::fs)).run P w= .ok (q&&r) w:=by
 simp only[yC,Sem.run_bind,ha,hb,he,Result.andThen_ok]
 cases q
 ·simp
 ·simpa using hr
theorem Dc:(yC d xs ys []).run P w= .ok true w:=rfl
theorem rf{k:IntKind}{a b:Int}(hu:UK P t=some k)(hg:gT P t=some false)(ha:xs[off]?=some (.int k a))(hb:ys[off]?=some (.int k b))(hr:(yC (d+1) xs ys fs).run P w= .ok r w):(yC (d+1) xs ys ((true,t,off)::fs)).run P w= .ok ((a==b)&&r) w:=
 rE (eP hg ha) (eP hg hb) (run_equalIn_int w d t k k a b (UK.get hu)) hr
theorem IM{a b:ByteArray}(hu:P.underlying t=some .string)(hg:gT P t=some false)(ha:xs[off]?=some (.string a))(hb:ys[off]?=some (.string b))(hr:(yC (d+1) xs ys fs).run P w= .ok r w):(yC (d+1) xs ys ((true,t,off)::fs)).run P w= .ok ((a.toList==b.toList)&&r) w:=
 rE (eP hg ha) (eP hg hb) (run_equalIn_string w d t a b hu) hr
theorem sL{z:Value}{k b:Nat}{gs:List (Bool×TypeId×Nat)}{q:Bool}(hg:gT P t=some true)(hz:TI P t=some (z,k,b))(h2:P.underlying t=some (.struct (P.fieldsOf t)))(h3:P.stoodInHeld t=false)(h4:(P.fieldsOf t).toList.map Ds=gs)
  (hq:(yC d (xs.extract off (off+k)) (ys.extract off (off+k)) gs).run P w= .ok q w) (hr:(yC (d+1) xs ys fs).run P w= .ok r w):(yC (d+1) xs ys ((true,t,off)::fs)).run P w= .ok (q&&r) w:=by
 refine rE (zA hg hz) (zA hg hz) ?_ hr
 rw[run_equalIn_struct w d t _ _ h2 h3,xz,h4]
 exact hq
end
end Go.Proofs.YtmbagpfmfiegkaaGreatAw
namespace Go.Proofs.YtmbagpfmfiegkaaGreat
open Go.Proofs.YtmbagpfmfiegkaaGreatAw Go.RowKit
def lC(k i:Int)(s:ByteArray)(k' i':Int)(s':ByteArray):Bool:=(k==k')&&((i==i')&&((s.toList==s'.toList)&&true))
theorem wW(w:World)(d:Nat)(k i:Int)(s:ByteArray)(k' i':Int)(s':ByteArray):(yC (d+1) #[.int .i64 k,.int .i64 i,.string s] #[.int .i64 k',.int .i64 i',.string s'] [(true,3,0),(true,2,1),(true,9,2)]).run Tryz.prog w= .ok (lC k i s k' i' s') w:=
 rf K.ML K.Iq rfl rfl (rf K.Oz K.LB rfl rfl (IM K.OB K.Ma rfl rfl Dc))
theorem Hw(k i:Int)(s:ByteArray)(k' i':Int)(s':ByteArray):cy Tryz.prog .eql 25 (.agg #[.int .i64 k,.int .i64 i,.string s]) (.agg #[.int .i64 k',.int .i64 i',.string s']) (.bool (lC k i s k' i' s'))∧
  cy Tryz.prog .neq 25 (.agg #[.int .i64 k,.int .i64 i,.string s]) (.agg #[.int .i64 k',.int .i64 i',.string s']) (.bool !(lC k i s k' i' s')):=
 cy.Oy (by kernel_rfl) (by kernel_rfl) (by kernel_rfl) (by kernel_rfl) fun w=>wW w 9998 k i s k' i' s'
theorem BU(k i:Int)(s:ByteArray)(k' i':Int)(s':ByteArray)(K:Value→Prop):dE Tryz.prog .eql 25 (.agg #[.int .i64 k,.int .i64 i,.string s]) (.agg #[.int .i64 k',.int .i64 i',.string s']) K=K (.bool (lC k i s k' i' s')):=nV (Hw ..).1 K
theorem CI(k i:Int)(s:ByteArray)(k' i':Int)(s':ByteArray)(K:Value→Prop):dE Tryz.prog .neq 25 (.agg #[.int .i64 k,.int .i64 i,.string s]) (.agg #[.int .i64 k',.int .i64 i',.string s']) K=K (.bool !(lC k i s k' i' s')):=nV (Hw ..).2 K
attribute [go_sem] BU CI
structure aq where
 kind:Int
 i:Int
 s:ByteArray
deriving DecidableEq
structure Atom where
 Nj:Int
 op:Int
 val:aq
deriving DecidableEq
def aq.enc(v:aq):List D:=[.v (.int .i64 v.kind),.v (.int .i64 v.i),.v (.string v.s)]
def Atom.enc(a:Atom):List D:=[.v (.int .i64 a.Nj),.v (.int .i64 a.op),.v (.int .i64 a.val.kind),.v (.int .i64 a.val.i),.v (.string a.val.s)]
theorem toList_inj{a b:ByteArray}(h:a.toList=b.toList):a=b:=by
 rw[ByteArray.toList_eq,ByteArray.toList_eq]at h
 obtain⟨⟨x⟩⟩:=a
 obtain⟨⟨y⟩⟩:=b
 simp_all
theorem fm(v w:aq):lC v.kind v.i v.s w.kind w.i w.s=decide (v=w):=by
 cases v with|mk k i s=>
 cases w with|mk k' i' s'=>
 rw[Bool.eq_iff_iff]
 simp only[lC,Bool.and_true,Bool.and_eq_true,beq_iff_eq,decide_eq_true_eq,aq.mk.injEq]
 exact⟨fun⟨a,b,c⟩=>⟨a,b,toList_inj c⟩,fun⟨a,b,c⟩=>⟨a,b,by rw[c]⟩⟩
abbrev du(n:Nat):AV:= .d (.v (.int .u64 n))
theorem tF.closed{H:aa}{φ:bI}{N:Addr→Prop}{w:World}{vals:Array Value}(vs:List Value)(h:tF H φ N w (vs.map fun v=> .d (.v v)) vals):vals=vs.toArray:=by
 obtain⟨hl,hh⟩:=h
 simp only[List.length_map]at hl
 apply Array.ext
 ·simpa using hl.symm
 ·intro i h1 h2
  have:=hh i (by simpa using h2) h1
  simp only[List.getElem_map]at this
  simpa using this.closed
def eZ(less more:Bool):Int:=if less then -1 else if more then 1 else 0
def iw(a b:Int):Int:=eZ (decide (a<b)) (decide (b<a))
def nm(a b:ByteArray):Bool:=Op.bytesLess a.toList b.toList
def nK(a b:ByteArray):Int:=eZ (nm a b) (!(nm a b||a.toList==b.toList))
def xn(b:Nat):Bool:=decide (9218868437227405312<b%9223372036854775808)
def dP(b:Nat):Nat:=if xn b then 9221120237041090560 else b
def dR(b:Nat):Nat:=if 9223372036854775808≤dP b then 18446744073709551615-dP b else dP b+9223372036854775808
def iW(n:Int):Nat:=(n%18446744073709551616).toNat
def yk(a b:Nat):Int:=eZ (decide (dR a<dR b)) (decide (dR b<dR a))
def aM(a b:aq):Int:=if a.kind≠b.kind then iw a.kind b.kind else if a.kind=1 then iw a.i b.i else if a.kind=2 then yk (iW a.i) (iW b.i)else if a.kind=3 then nK a.s b.s else 0
theorem im(n:Int):iW n<18446744073709551616:=by unfold iW;omega
theorem jE(n:Int):IntKind.u64.wrap n=((iW n:Nat):Int):=by
 unfold iW
 rw[Int.toNat_of_nonneg (Int.emod_nonneg _ (by omega))]
 simp[IntKind.wrap,IntKind.signed,IntKind.bits]
theorem kq(b:Nat)(h:b<18446744073709551616):dP b<18446744073709551616:=by unfold dP;split<;>omega
theorem xt(b:Nat)(h:b<18446744073709551616):dR b<18446744073709551616:=by
 have:=kq b h
 unfold dR;split<;>omega
theorem lW(a:Int)(H:aa):ag Tryz.prog 144 [iA a] H (.ok (bA false)) H:=by
 refine ag.aj (hint:=(fun _=>false)) Tryz.func144 (by kernel_rfl) rfl [2] (by kernel_rfl) (by decide) (by simp[Tryz.ntmps144]) ?_
 rw[Tryz.ntmps144]
 simp -implicitDefEqProofs only[↓reduceIte,go_sem,Nat.reduceLT,Nat.reduceEqDiff,reduceCtorEq]
 refine aw.aI ?_
 simp -implicitDefEqProofs only[↓reduceIte,go_sem,Nat.reduceLT]
theorem kK(a:Int)(H:aa):ag Tryz.prog 145 [iA a] H (.ok (bA false)) H:=by
 refine ag.aj (hint:=(fun _=>false)) Tryz.func145 (by kernel_rfl) rfl [2] (by kernel_rfl) (by decide) (by simp[Tryz.ntmps145]) ?_
 rw[Tryz.ntmps145]
 simp -implicitDefEqProofs only[↓reduceIte,go_sem,Nat.reduceLT,Nat.reduceEqDiff,reduceCtorEq]
 refine aw.aI ?_
 simp -implicitDefEqProofs only[↓reduceIte,go_sem,Nat.reduceLT]
theorem jU(a:ByteArray)(H:aa):ag Tryz.prog 146 [sA a] H (.ok (bA false)) H:=by
 refine ag.aj (hint:=(fun _=>false)) Tryz.func146 (by kernel_rfl) rfl [2] (by kernel_rfl) (by decide) (by simp[Tryz.ntmps146]) ?_
 rw[Tryz.ntmps146]
 simp -implicitDefEqProofs only[↓reduceIte,go_sem,Nat.reduceLT,Nat.reduceEqDiff,reduceCtorEq]
 refine aw.aI ?_
 simp -implicitDefEqProofs only[↓reduceIte,go_sem,Nat.reduceLT]
theorem xJ(a b:Int)(H:aa):ag Tryz.prog 104 [iA a,iA b] H (.ok (iA (iw a b))) H:=by
 refine ag.aj (hint:=(fun _=>false)) Tryz.func104 (by kernel_rfl) rfl [4] (by kernel_rfl) (by decide) (by simp[Tryz.ntmps104]) ?_
 rw[Tryz.ntmps104]
 simp -implicitDefEqProofs only[↓reduceIte,go_sem,Nat.reduceLT,Int.reduceNeg,reduceCtorEq]
 refine ae.ok (lW a H) ?_
 simp -implicitDefEqProofs only[↓reduceIte,go_sem,Nat.reduceLT,Nat.reduceEqDiff,Int.reduceNeg]
 refine ae.ok (lW b H) ?_
 simp -implicitDefEqProofs only[↓reduceIte,go_sem,Nat.reduceLT,Nat.reduceEqDiff,Int.reduceNeg,reduceCtorEq]
 by_cases h:a<b
 ·refine fc (by simp -implicitDefEqProofs only[go_sem,h]) ?_
  simp -implicitDefEqProofs only[go_sem,Int.reduceNeg]
  refine aw.aI ?_
  simp -implicitDefEqProofs only[↓reduceIte,go_sem,Nat.reduceLT,Int.reduceNeg,iw,eZ,h]
 ·refine eQ (by simp -implicitDefEqProofs only[go_sem,h]) ?_
  simp -implicitDefEqProofs only[↓reduceIte,go_sem,Nat.reduceLT,Nat.reduceEqDiff,reduceCtorEq]
  by_cases h2:b<a
  ·refine fc (by simp -implicitDefEqProofs only[go_sem,h2]) ?_
   simp -implicitDefEqProofs only[go_sem]
   refine aw.aI ?_
   simp -implicitDefEqProofs only[↓reduceIte,go_sem,Nat.reduceLT,reduceCtorEq,iw,eZ,h,h2]
  ·refine eQ (by simp -implicitDefEqProofs only[go_sem,h2]) ?_
   simp -implicitDefEqProofs only[go_sem]
   refine aw.aI ?_
   simp -implicitDefEqProofs only[↓reduceIte,go_sem,Nat.reduceLT,reduceCtorEq,iw,eZ,h,h2]
theorem sW(a b:Int)(H:aa):ag Tryz.prog 105 [iA a,iA b] H (.ok (iA (iw a b))) H:=by
 refine ag.aj (hint:=(fun _=>false)) Tryz.func105 (by kernel_rfl) rfl [4] (by kernel_rfl) (by decide) (by simp[Tryz.ntmps105]) ?_
 rw[Tryz.ntmps105]
 simp -implicitDefEqProofs only[↓reduceIte,go_sem,Nat.reduceLT,Int.reduceNeg,reduceCtorEq]
 refine ae.ok (kK a H) ?_
 simp -implicitDefEqProofs only[↓reduceIte,go_sem,Nat.reduceLT,Nat.reduceEqDiff,Int.reduceNeg]
 refine ae.ok (kK b H) ?_
 simp -implicitDefEqProofs only[↓reduceIte,go_sem,Nat.reduceLT,Nat.reduceEqDiff,Int.reduceNeg,reduceCtorEq]
 by_cases h:a<b
 ·refine fc (by simp -implicitDefEqProofs only[go_sem,h]) ?_
  simp -implicitDefEqProofs only[go_sem,Int.reduceNeg]
  refine aw.aI ?_
  simp -implicitDefEqProofs only[↓reduceIte,go_sem,Nat.reduceLT,Int.reduceNeg,iw,eZ,h]
 ·refine eQ (by simp -implicitDefEqProofs only[go_sem,h]) ?_
  simp -implicitDefEqProofs only[↓reduceIte,go_sem,Nat.reduceLT,Nat.reduceEqDiff,reduceCtorEq]
  by_cases h2:b<a
  ·refine fc (by simp -implicitDefEqProofs only[go_sem,h2]) ?_
   simp -implicitDefEqProofs only[go_sem]
   refine aw.aI ?_
   simp -implicitDefEqProofs only[↓reduceIte,go_sem,Nat.reduceLT,reduceCtorEq,iw,eZ,h,h2]
  ·refine eQ (by simp -implicitDefEqProofs only[go_sem,h2]) ?_
   simp -implicitDefEqProofs only[go_sem]
   refine aw.aI ?_
   simp -implicitDefEqProofs only[↓reduceIte,go_sem,Nat.reduceLT,reduceCtorEq,iw,eZ,h,h2]
theorem q7(a b:ByteArray)(H:aa):ag Tryz.prog 107 [sA a,sA b] H (.ok (iA (nK a b))) H:=by
 refine ag.aj (hint:=(fun _=>false)) Tryz.func107 (by kernel_rfl) rfl [4] (by kernel_rfl) (by decide) (by simp[Tryz.ntmps107]) ?_
 rw[Tryz.ntmps107]
 simp -implicitDefEqProofs only[↓reduceIte,go_sem,Nat.reduceLT,Int.reduceNeg,reduceCtorEq]
 refine ae.ok (jU a H) ?_
 simp -implicitDefEqProofs only[↓reduceIte,go_sem,Nat.reduceLT,Nat.reduceEqDiff,Int.reduceNeg]
 refine ae.ok (jU b H) ?_
 simp -implicitDefEqProofs only[↓reduceIte,go_sem,Nat.reduceLT,Nat.reduceEqDiff,Int.reduceNeg,reduceCtorEq]
 cases h:Op.bytesLess a.toList b.toList with
 |true=>
  refine fc (by simp -implicitDefEqProofs only[go_sem]) ?_
  simp -implicitDefEqProofs only[go_sem,Int.reduceNeg]
  refine aw.aI ?_
  simp -implicitDefEqProofs only[↓reduceIte,go_sem,Nat.reduceLT,Int.reduceNeg,nK,eZ,nm,h]
 |false=>
  refine eQ (by simp -implicitDefEqProofs only[go_sem]) ?_
  simp -implicitDefEqProofs only[↓reduceIte,go_sem,Nat.reduceLT,Nat.reduceEqDiff,reduceCtorEq,h]
  cases h2:(a.toList==b.toList)with
  |false=>
   refine fc (by simp -implicitDefEqProofs only[go_sem]) ?_
   simp -implicitDefEqProofs only[go_sem]
   refine aw.aI ?_
   simp -implicitDefEqProofs only[↓reduceIte,go_sem,Nat.reduceLT,reduceCtorEq,nK,eZ,nm,h,h2]
  |true=>
   refine eQ (by simp -implicitDefEqProofs only[go_sem]) ?_
   simp -implicitDefEqProofs only[go_sem]
   refine aw.aI ?_
   simp -implicitDefEqProofs only[↓reduceIte,go_sem,Nat.reduceLT,reduceCtorEq,nK,eZ,nm,h,h2]
theorem Cx(b:Nat)(hb:b<18446744073709551616):(FloatKind.f64.format.order b b !=some .eq)=xn b:=by
 have key:∀d:Ieee.Datum,(d.order d !=some .eq)=d.isNaN:=by
  intro d
  cases d with
  |nan s f=>rfl
  |infinity s=>simp[Ieee.Datum.order,Ieee.Datum.isNaN]
  |number s m i=>simp[Ieee.Datum.order,Ieee.Datum.isNaN]
 have h1:(FloatKind.f64.format.order b b !=some .eq)=(FloatKind.f64.format.read b).isNaN:=key _
 rw[h1]
 have hs:FloatKind.f64.format.signWeight=9223372036854775808:=by decide
 have hb':FloatKind.f64.format.binade=4503599627370496:=by decide
 have hi:FloatKind.f64.format.infRung=9218868437227405312:=by decide
 unfold Ieee.Format.read xn
 rw[hs,hb',hi]
 generalize b%9223372036854775808=r
 by_cases h1:r<4503599627370496
 ·simp only[h1,if_true,Ieee.Datum.isNaN];simp;omega
 ·by_cases h2:r<9218868437227405312
  ·simp only[h1,h2,if_true,if_false,Ieee.Datum.isNaN];simp;omega
  ·by_cases h3:r=9218868437227405312
   ·subst h3;simp[Ieee.Datum.isNaN]
   ·simp only[h1,h2,h3,if_false,Ieee.Datum.isNaN];simp;omega
def uu:Array Value→Sem Value:=Extern.MathFloatBits.float64frombits
theorem tI(n:Nat)(H:aa):ag Tryz.prog 143 [du n] H (.ok (.d (.v (.float .f64 n)))) H:=by
 intro φ N w vals hR hA
 have hv:=tF.closed [.int .u64 (n:Int)] hA
 subst hv
 refine .inr ⟨.float .f64 n,w,?_,φ,N,hR,aF.refl,.d (.v _ rfl)⟩
 rw[run_callFunc_extern (e:=uu) Tryz.func143 (by kernel_rfl) (by kernel_rfl) (by kernel_rfl) (by kernel_rfl)]
 rfl
theorem jT(b:Nat)(hb:b<18446744073709551616)(H:aa):ag Tryz.prog 102 [du b] H (.ok (du (dP b))) H:=by
 refine ag.aj (hint:=(fun _=>false)) Tryz.func102 (by kernel_rfl) rfl [2] (by kernel_rfl) (by decide) (by simp[Tryz.ntmps102]) ?_
 rw[Tryz.ntmps102]
 simp -implicitDefEqProofs only[↓reduceIte,go_sem,Nat.reduceLT,reduceCtorEq]
 refine ae.ok (tI b H) ?_
 simp -implicitDefEqProofs only[↓reduceIte,go_sem,Nat.reduceLT,Nat.reduceEqDiff,Cx b hb]
 cases h:xn b with
 |true=>
  refine fc (by simp -implicitDefEqProofs only[go_sem]) ?_
  simp -implicitDefEqProofs only[go_sem]
  refine aw.aI ?_
  simp -implicitDefEqProofs only[↓reduceIte,go_sem,Nat.reduceLT,dP,h,du]
 |false=>
  refine eQ (by simp -implicitDefEqProofs only[go_sem]) ?_
  simp -implicitDefEqProofs only[↓reduceIte,go_sem,Nat.reduceLT,reduceCtorEq]
  refine aw.aI ?_
  simp -implicitDefEqProofs only[↓reduceIte,go_sem,Nat.reduceLT,dP,h,Bool.false_eq_true]
theorem Mi(c:Nat)(h:c<9223372036854775808):IntKind.u64.wrap (JI .u64 (c:Int) 9223372036854775808)=((c+9223372036854775808:Nat):Int):=by
 have e:=bits_or_u64_nat c 9223372036854775808 (by omega) (by omega)
 have:c|||9223372036854775808=c+9223372036854775808:=by
  have:=Nat.two_pow_add_eq_or_of_lt (i:=63) (b:=c) (by omega) 1
  rw[Nat.or_comm]
  simpa[Nat.add_comm]using this.symm
 rw[this]at e
 exact e
theorem Mf(c:Nat)(h:c<18446744073709551616):IntKind.u64.wrap (HE .u64 (c:Int))=((18446744073709551615-c:Nat):Int):=by
 have e:=bits_xor_u64_nat 18446744073709551615 c (by omega) h
 have:18446744073709551615^^^c=18446744073709551615-c:=by
  rw[Nat.xor_comm]
  have:=Nat.testBit_two_pow_sub_succ (x:=c) (n:=64) h
  apply Nat.eq_of_testBit_eq
  intro i
  rw[Nat.testBit_xor]
  have h2:=this i
  rw[show 2^64-(c+1)=18446744073709551615-c from by omega]at h2
  rw[h2]
  have h3:(18446744073709551615:Nat).testBit i=decide (i<64):=by
   have:=Nat.testBit_two_pow_sub_one 64 i
   simpa using this
  rw[h3]
  by_cases hi:i<64
  ·simp[hi]
  ·have h5:2^64≤2^i:=Nat.pow_le_pow_right (by omega) (by omega)
   have:c.testBit i=false:=Nat.testBit_lt_two_pow (by omega)
   simp[hi,this]
 rw[this]at e
 exact e
theorem kb(b:Nat)(hb:b<18446744073709551616)(H:aa):ag Tryz.prog 65 [du b] H (.ok (du (dR b))) H:=by
 have hc:=kq b hb
 have k1:=jT b hb H
 unfold dR
 generalize dP b=c at hc k1⊢
 refine ag.aj (hint:=(fun _=>false)) Tryz.func65 (by kernel_rfl) rfl [2] (by kernel_rfl) (by decide) (by simp[Tryz.ntmps65]) ?_
 rw[Tryz.ntmps65]
 simp -implicitDefEqProofs only[↓reduceIte,go_sem,Nat.reduceLT,reduceCtorEq]
 refine ae.ok k1 ?_
 simp -implicitDefEqProofs only[↓reduceIte,go_sem,Nat.reduceLT]
 by_cases h:9223372036854775808≤c
 ·simp -implicitDefEqProofs only[↓reduceIte,go_sem,Nat.reduceLT,reduceCtorEq,show(9223372036854775808:Int)≤c from by omega,Mf c hc]
  refine aw.aI ?_
  simp -implicitDefEqProofs only[↓reduceIte,go_sem,Nat.reduceLT,h,du]
 ·simp -implicitDefEqProofs only[↓reduceIte,go_sem,Nat.reduceLT,reduceCtorEq,show ¬(9223372036854775808:Int)≤c from by omega,Mi c (by omega)]
  refine aw.aI ?_
  simp -implicitDefEqProofs only[↓reduceIte,go_sem,Nat.reduceLT,h,du]
theorem FH(a b:Nat)(ha:a<18446744073709551616)(hb:b<18446744073709551616)(H:aa):ag Tryz.prog 106 [du a,du b] H (.ok (iA (yk a b))) H:=by
 have k1:=kb a ha H
 have k2:=kb b hb H
 unfold yk
 generalize dR a=x at k1⊢
 generalize dR b=y at k2⊢
 refine ag.aj (hint:=(fun _=>false)) Tryz.func106 (by kernel_rfl) rfl [4] (by kernel_rfl) (by decide) (by simp[Tryz.ntmps106]) ?_
 rw[Tryz.ntmps106]
 simp -implicitDefEqProofs only[↓reduceIte,go_sem,Nat.reduceLT,Int.reduceNeg,reduceCtorEq]
 refine ae.ok k1 ?_
 simp -implicitDefEqProofs only[↓reduceIte,go_sem,Nat.reduceLT,Nat.reduceEqDiff]
 refine ae.ok k2 ?_
 simp -implicitDefEqProofs only[↓reduceIte,go_sem,Nat.reduceLT,Nat.reduceEqDiff,Int.reduceNeg]
 by_cases h:x<y
 ·refine fc (by simp -implicitDefEqProofs only[go_sem,h]) ?_
  simp -implicitDefEqProofs only[go_sem,Int.reduceNeg]
  refine aw.aI ?_
  simp -implicitDefEqProofs only[↓reduceIte,go_sem,Nat.reduceLT,Int.reduceNeg,eZ,h]
 ·refine eQ (by simp -implicitDefEqProofs only[go_sem,h]) ?_
  simp -implicitDefEqProofs only[↓reduceIte,go_sem,Nat.reduceLT,Nat.reduceEqDiff]
  by_cases h2:y<x
  ·refine fc (by simp -implicitDefEqProofs only[go_sem,h2]) ?_
   simp -implicitDefEqProofs only[go_sem]
   refine aw.aI ?_
   simp -implicitDefEqProofs only[↓reduceIte,go_sem,Nat.reduceLT,reduceCtorEq,eZ,h,h2]
  ·refine eQ (by simp -implicitDefEqProofs only[go_sem,h2]) ?_
   simp -implicitDefEqProofs only[go_sem]
   refine aw.aI ?_
   simp -implicitDefEqProofs only[↓reduceIte,go_sem,Nat.reduceLT,reduceCtorEq,eZ,h,h2]
abbrev aq.av(v:aq):AV:= .agg [iA v.kind,iA v.i,sA v.s]
theorem eW(a b:aq)(H:aa):ag Tryz.prog 63 [a.av,b.av] H (.ok (iA (aM a b))) H:=by
 unfold aM
 refine ag.aj (hint:=(fun _=>false)) Tryz.func63 (by kernel_rfl) rfl [4] (by kernel_rfl) (by decide) (by simp[Tryz.ntmps63]) ?_
 rw[Tryz.ntmps63]
 simp -implicitDefEqProofs only[↓reduceIte,go_sem,ah,Nat.reduceAdd,Nat.reduceLT,Nat.reduceLeDiff,Nat.reduceEqDiff]
 by_cases h:a.kind=b.kind
 ·refine eQ (by simp -implicitDefEqProofs only[go_sem,h]) ?_
  simp -implicitDefEqProofs only[↓reduceIte,go_sem,ah,Nat.reduceAdd,Nat.reduceLT,Nat.reduceLeDiff,Nat.reduceEqDiff]
  by_cases h1:a.kind=1
  ·refine fc (by simp -implicitDefEqProofs only[go_sem,h1]) ?_
   simp -implicitDefEqProofs only[↓reduceIte,go_sem,ah,Nat.reduceAdd,Nat.reduceLT,Nat.reduceLeDiff,Nat.reduceEqDiff]
   refine ae.ok (sW _ _ _) ?_
   simp -implicitDefEqProofs only[↓reduceIte,go_sem,Nat.reduceLT]
   refine aw.ret ?_
   simp -implicitDefEqProofs only[↓reduceIte,go_sem,Nat.reduceLT,h1,←h]
  ·refine eQ (by simp -implicitDefEqProofs only[go_sem,h1]) ?_
   simp -implicitDefEqProofs only[↓reduceIte,go_sem,Nat.reduceLT,Nat.reduceEqDiff]
   by_cases h2:a.kind=2
   ·refine fc (by simp -implicitDefEqProofs only[go_sem,h2]) ?_
    simp -implicitDefEqProofs only[↓reduceIte,go_sem,ah,Nat.reduceAdd,Nat.reduceLT,Nat.reduceLeDiff,Nat.reduceEqDiff,jE]
    refine ae.ok (FH _ _ (im _) (im _) _) ?_
    simp -implicitDefEqProofs only[↓reduceIte,go_sem,Nat.reduceLT]
    refine aw.ret ?_
    simp -implicitDefEqProofs only[↓reduceIte,go_sem,Nat.reduceLT,Int.reduceEq,h2,←h]
   ·refine eQ (by simp -implicitDefEqProofs only[go_sem,h2]) ?_
    simp -implicitDefEqProofs only[↓reduceIte,go_sem,Nat.reduceLT,Nat.reduceEqDiff]
    by_cases h3:a.kind=3
    ·refine fc (by simp -implicitDefEqProofs only[go_sem,h3]) ?_
     simp -implicitDefEqProofs only[↓reduceIte,go_sem,ah,Nat.reduceAdd,Nat.reduceLT,Nat.reduceEqDiff]
     refine ae.ok (q7 _ _ _) ?_
     simp -implicitDefEqProofs only[↓reduceIte,go_sem,Nat.reduceLT]
     refine aw.ret ?_
     simp -implicitDefEqProofs only[↓reduceIte,go_sem,Nat.reduceLT,Int.reduceEq,h3,←h]
    ·refine eQ (by simp -implicitDefEqProofs only[go_sem,h3]) ?_
     simp -implicitDefEqProofs only[go_sem]
     refine aw.ret ?_
     simp -implicitDefEqProofs only[↓reduceIte,go_sem,Nat.reduceLT,h1,h2,h3,←h]
 ·refine fc (by simp -implicitDefEqProofs only[go_sem,h]) ?_
  simp -implicitDefEqProofs only[↓reduceIte,go_sem,ah,Nat.reduceAdd,Nat.reduceLT,Nat.reduceLeDiff,Nat.reduceEqDiff]
  refine ae.ok (xJ _ _ _) ?_
  simp -implicitDefEqProofs only[↓reduceIte,go_sem,Nat.reduceLT]
  refine aw.ret ?_
  simp -implicitDefEqProofs only[↓reduceIte,go_sem,Nat.reduceLT,h]
theorem yz(n k:Nat)(h:k≤64):j6 .u64 (n:Int) (k:Int)=((n/2^k:Nat):Int):=by
 have:min k 64=k:=by omega
 simp only[j6,IntKind.bits,Int.toNat_natCast,this]
 rw[Int.fdiv_eq_ediv_of_nonneg _ (by exact_mod_cast Nat.zero_le _)]
 norm_cast
theorem mq(n:Nat)(h:n<256):IntKind.u8.wrap (n:Int)=n:=mP _ (by omega) (by omega)
theorem ov(k:IntKind)(a b:Nat)(ha:a<2^k.bits)(hb:b<2^k.bits):JI k (a:Int) (b:Int)=((a|||b:Nat):Int):=by
 simp[JI,BitVec.toNat_or,BitVec.ofInt_natCast,Nat.mod_eq_of_lt ha,Nat.mod_eq_of_lt hb]
theorem om(k:IntKind)(a b:Nat)(ha:a<2^k.bits)(hb:b<2^k.bits):xC k (a:Int) (b:Int)=((a&&&b:Nat):Int):=by
 simp[xC,BitVec.toNat_and,BitVec.ofInt_natCast,Nat.mod_eq_of_lt ha,Nat.mod_eq_of_lt hb]
theorem aK(n:Nat)(h:n<18446744073709551616):IntKind.u64.wrap (n:Int)=n:=cg _ (by omega) (by omega)
theorem mN(n:Nat):IntKind.u8.wrap (n:Int)=((n%256:Nat):Int):=by simp[IntKind.wrap,IntKind.signed,IntKind.bits]
theorem yJ(n:Nat)(h:n≤1000000000000):IntKind.i64.wrap (n:Int)=(n:Int):=wrap64_in _ (by omega) (by omega)
def fi(n:Nat):Nat:=if n=0 then 0 else n.log2+1
theorem fO(n w:Nat):fi n≤w↔n<2^w:=by
 unfold fi
 split
 ·subst_vars;simp[Nat.two_pow_pos]
 ·rename_i h
  rw[←Nat.log2_lt h];omega
theorem sn(n k:Nat)(h:2^k≤n):fi n=k+fi (n/2^k):=by
 have key:∀w,fi n≤w↔k+fi (n/2^k)≤w:=by
  intro w
  rcases Nat.lt_or_ge w k with hw|hw
  ·rw[fO]
   have:2^w≤2^k:=Nat.pow_le_pow_right (by omega) (by omega)
   omega
  ·rw[show(k+fi (n/2^k)≤w)=(fi (n/2^k)≤w-k)from propext ⟨fun h=>by omega,fun h=>by omega⟩,fO,fO,Nat.div_lt_iff_lt_mul (Nat.two_pow_pos k),←Nat.pow_add,Nat.sub_add_cancel hw]
 exact Nat.le_antisymm ((key _).2 (Nat.le_refl _)) ((key _).1 (Nat.le_refl _))
theorem FN{n:Nat}(h:n<18446744073709551616):fi n≤64:=(fO n 64).2 h
theorem Ku:∀n,n<256→∀b:ByteArray,b.data.toList=(List.range 256).map (fun n=>UInt8.ofNat (fi n))→b[n]?=some (UInt8.ofNat (fi n)):=by
 intro n hn b hb
 have:b.data[n]?=some (UInt8.ofNat (fi n)):=by
  rw[←Array.getElem?_toList,hb];simp[hn]
 obtain⟨h1,h2⟩:=Array.getElem?_eq_some_iff.1 this
 rw[getElem?_pos b n h1]
 exact congrArg some h2
theorem D2{n:Nat}(h:n<256):(UInt8.ofNat (fi n)).toNat=fi n:=by
 have:fi n≤8:=(fO n 8).2 h
 simp;omega
theorem pK(n:Nat):(4294967296≤n→fi n=32+fi (n/4294967296))∧(65536≤n→fi n=16+fi (n/65536))∧(256≤n→fi n=8+fi (n/256)):=
 ⟨sn n 32,sn n 16,sn n 8⟩
theorem sS(n:Nat)(hn:n<18446744073709551616)(H:aa):ag Tryz.prog 108 [du n] H (.ok (iA (fi n))) H:=by
 have s32:∀n:Nat,j6 .u64 (n:Int) 32=((n/4294967296:Nat):Int):=fun n=>yz n 32 (by decide)
 have s16:∀n:Nat,j6 .u64 (n:Int) 16=((n/65536:Nat):Int):=fun n=>yz n 16 (by decide)
 have s8:∀n:Nat,j6 .u64 (n:Int) 8=((n/256:Nat):Int):=fun n=>yz n 8 (by decide)
 have w48:IntKind.i64.wrap 48=48:=rfl
 have w56:IntKind.i64.wrap 56=56:=rfl
 have w40:IntKind.i64.wrap 40=40:=rfl
 have w24:IntKind.i64.wrap 24=24:=rfl
 have w16:IntKind.i64.wrap 16=16:=rfl
 have w8:IntKind.i64.wrap 8=8:=rfl
 have fin:∀(r:Int) (q m:Nat),r=(q:Int)→q≤56→m<256→IntKind.i64.wrap (r+IntKind.i64.wrap ((fi m:Nat):Int))=((q+fi m:Nat):Int):=fun r q m h0 hr hm=>by
  have:=(fO m 8).2 hm
  rw[wrap64_in (fi m:Int) (by omega) (by omega),wrap64_in _ (by omega) (by omega)]
  omega
 refine ag.aj (hint:=(fun _=>false)) Tryz.func108 (by kernel_rfl) rfl [2] (by kernel_rfl) (by decide) (by simp[Tryz.ntmps108]) ?_
 rw[Tryz.ntmps108]
 simp -implicitDefEqProofs only[↓reduceIte,go_sem,Nat.reduceLT,reduceCtorEq]
 by_cases h:(4294967296:Int)≤(n:Int)
 all_goals first
  |(have e1:=(pK n).1 (by omega)
    simp -implicitDefEqProofs only[↓reduceIte,go_sem,Nat.reduceLT,Int.reduceLE,reduceCtorEq,h,s32]
    have hn1:n/4294967296<4294967296:=by omega
    generalize n/4294967296=n1 at e1 hn1⊢)
  |(simp -implicitDefEqProofs only[↓reduceIte,go_sem,Nat.reduceLT,reduceCtorEq,h]
    obtain⟨n1,g1⟩:∃n1,n1=n:=⟨_,rfl⟩
    have hn1:n1<4294967296:=by omega
    have e1:fi n=0+fi n1:=by rw[g1];omega
    rw[←g1])
 all_goals
  by_cases h2:(65536:Int)≤(n1:Int)
  all_goals first
   |(have e2:=(pK n1).2.1 (by omega)
     simp -implicitDefEqProofs only[↓reduceIte,go_sem,Nat.reduceLT,Nat.reduceEqDiff,Int.reduceLE,Int.reduceAdd,reduceCtorEq,h2,s16,w48]
     have hn2:n1/65536<65536:=by omega
     generalize n1/65536=n2 at e2 hn2⊢)
   |(simp -implicitDefEqProofs only[↓reduceIte,go_sem,Nat.reduceLT,reduceCtorEq,h2]
     obtain⟨n2,g2⟩:∃n2,n2=n1:=⟨_,rfl⟩
     have hn2:n2<65536:=by omega
     have e2:fi n1=0+fi n2:=by rw[g2];omega
     rw[←g2])
  all_goals
   by_cases h3:(256:Int)≤(n2:Int)
   all_goals first
    |(have e3:=(pK n2).2.2 (by omega)
      simp -implicitDefEqProofs only[↓reduceIte,go_sem,Nat.reduceLT,Nat.reduceEqDiff,Int.reduceLE,Int.reduceAdd,reduceCtorEq,h3,s8,w56,w40,w24,w16,w8]
      have hn3:n2/256<256:=by omega
      generalize n2/256=n3 at e3 hn3⊢)
    |(simp -implicitDefEqProofs only[↓reduceIte,go_sem,Nat.reduceLT,Nat.reduceEqDiff,reduceCtorEq,h3]
      obtain⟨n3,g3⟩:∃n3,n3=n2:=⟨_,rfl⟩
      have hn3:n3<256:=by omega
      have e3:fi n2=0+fi n3:=by rw[g3];omega
      rw[←g3])
   all_goals
    simp -implicitDefEqProofs only[go_sem,mq n3 hn3]
    rw[Ku n3 hn3 _ (by kernel_rfl)]
    simp -implicitDefEqProofs only[↓reduceIte,go_sem,Nat.reduceLT,Nat.reduceEqDiff,D2 hn3]
    refine aw.aI ?_
    have f0:=fin 0 0 n3 rfl (by decide) hn3
    have f8:=fin 8 8 n3 rfl (by decide) hn3
    have f16:=fin 16 16 n3 rfl (by decide) hn3
    have f24:=fin 24 24 n3 rfl (by decide) hn3
    have f32:=fin 32 32 n3 rfl (by decide) hn3
    have f40:=fin 40 40 n3 rfl (by decide) hn3
    have f48:=fin 48 48 n3 rfl (by decide) hn3
    have f56:=fin 56 56 n3 rfl (by decide) hn3
    simp -implicitDefEqProofs only[↓reduceIte,go_sem,Nat.reduceLT,w16,f0,f8,f16,f24,f32,f40,f48,f56]
    all_goals
     refine congrArg (fun m:Nat=>iA m) ?_
     first|omega|(simp only[e1,e2,e3];omega)
end Go.Proofs.YtmbagpfmfiegkaaGreat
namespace Go.Proofs.YtmbagpfmfiegkaaGreatAw
open Go.RowKit
def a8(P:Program)(H:aa)(s:Nat→AV):ResultVar→Option AV
 | .tmp t=>some (s t)
 | .cell a t=>(gT P t).bind fun b=>if b=true then(TI P t).bind fun z=>(gD H z.2.1 (s a)).map .agg else Oe (gD H 1 (s a))
def aJ(P:Program)(H:aa)(s:Nat→AV):List ResultVar→Option (List AV)
 |[]=>some []
 |r::rs=>(a8 P H s r).bind fun x=>(aJ P H s rs).map (x::·)
def aZ(P:Program)(rs:List ResultVar)(H0:aa)(res:lH)(H':aa):bH:=fun e s H=>
 match e with
 | .normal| .ret=>∃avs s',aJ P H s rs=some avs∧ay H0 (fun t=>avs.getD t .top) H s' H'∧res= .ok (jY (List.range avs.length) s')
 | .panic v=>∃s',ay H0 s H s' H'∧res= .panic v
 |_=>False
section
variable {P:Program} {H:aa} {φ:bI} {N:Addr→Prop} {w:World} {s:Nat→AV} {a:Act}
theorem yw(hR:Rel H φ N w){x:AV}{v:Value}(hx:RA H φ N w x v){t:TypeId}(hg:gT P t=some true){z:Value}{k b:Nat}(hi:TI P t=some (z,k,b)){cs:List AV}(h:gD H k x=some cs):
  ∃ad u,v= .pointer (some ad)∧(loadVar t ad).run P w= .ok u w∧RA H φ N w (.agg cs) u:=by
 obtain⟨hl,ad,hv,hh⟩:=oO hR hx h
 let f:Nat→Value:=fun t=>if ht:t<cs.length then(hh t ht).choose else undef
 have hf:∀t (ht:t<cs.length),w.cell? (ad.add t)=some (f t)∧RA H φ N w (cs[t]) (f t):=fun t ht=>by
  simp only[f,ht,dif_pos];exact(hh t ht).choose_spec
 have hrun:=run_loadCells (P:=P) w ad k f fun j hj=>(hf j (by omega)).1
 refine⟨ad,.agg ((List.range k).map f).toArray,hv,?_,.agg _ _ (by simp[hl]) fun i h1 h2=>?_⟩
 ·simp only[loadVar,Sem.run_bind,gT.run hg,Result.andThen_ok,if_true,TI.sizeOf hi,hrun,Sem.run_pure]
 ·simp only[List.getElem_toArray,List.getElem_map,List.getElem_range]
  exact(hf i h1).2
theorem An(hR:Rel H φ N w){x:AV}{v:Value}(hx:RA H φ N w x v){t:TypeId}(hg:gT P t=some false){c:AV}(h:gD H 1 x=some [c]):
  ∃ad u,v= .pointer (some ad)∧(loadVar t ad).run P w= .ok u w∧RA H φ N w c u:=by
 obtain⟨hl,ad,hv,hh⟩:=oO hR hx h
 obtain⟨u,hu,hr⟩:=hh 0 (by simp)
 have hu':w.cell? ad=some u:=by simpa[Addr.add]using hu
 exact⟨ad,u,hv,by simp only[loadVar,Sem.run_bind,gT.run hg,Result.andThen_ok,Bool.false_eq_true,if_false,run_load,hu'],hr⟩
theorem GW(hR:Rel H φ N w)(hT:cO H φ N w s a){r:ResultVar}{x:AV}(h:a8 P H s r=some x):
  ∃u,(match r with| .tmp t=>pure (a.tmps.getD t undef)| .cell b t=>do loadVar t (←asAddr (a.tmps.getD b undef)):Sem Value).run P w= .ok u w∧RA H φ N w x u:=by
 cases r with
 |tmp t=>cases h;exact⟨_,rfl,hT t⟩
 |cell b t=>
  simp only[a8]at h
  obtain⟨g,hg,h⟩:=Option.bind_eq_some_iff.1 h
  cases g with
  |true=>
   rw[if_pos rfl]at h
   obtain⟨⟨z,k,bb⟩,hz,h⟩:=Option.bind_eq_some_iff.1 h
   obtain⟨cs,hc,rfl⟩:=Option.map_eq_some_iff.1 h
   obtain⟨ad,u,hv,hrun,hu⟩:=yw hR (hT b) hg hz hc
   exact⟨u,by simp only[hv,Sem.run_bind,asAddr,Sem.run_pure,Result.andThen_ok,hrun],hu⟩
  |false=>
   rw[if_neg (by simp)]at h
   have hc:gD H 1 (s b)=some [x]:=by
    revert h
    cases gD H 1 (s b)with
    |none=>intro h;cases h
    |some l=>rcases l with _|⟨c,_|⟨d,l⟩⟩<;>intro h<;>cases h;rfl
   obtain⟨ad,u,hv,hrun,hu⟩:=An hR (hT b) hg hc
   exact⟨u,by simp only[hv,Sem.run_bind,asAddr,Sem.run_pure,Result.andThen_ok,hrun],hu⟩
theorem pD(hR:Rel H φ N w)(hT:cO H φ N w s a):∀{rs:List ResultVar} {xs:List AV},aJ P H s rs=some xs→
  ∃us:List Value,(rs.mapM fun r=>(match r with| .tmp t=>pure (a.tmps.getD t undef)| .cell b t=>do loadVar t (←asAddr (a.tmps.getD b undef)):Sem Value)).run P w= .ok us w∧xs.length=us.length∧∀i (h1:i<xs.length) (h2:i<us.length),RA H φ N w (xs[i]) (us[i])
 |[],xs,h=>by cases h;exact⟨[],rfl,rfl,fun i h1=>by simp at h1⟩
 |r::rs,xs,h=>by
  simp only[aJ]at h
  obtain⟨x,hx,h⟩:=Option.bind_eq_some_iff.1 h
  obtain⟨ys,hy,rfl⟩:=Option.map_eq_some_iff.1 h
  obtain⟨u,hu,ru⟩:=GW hR hT hx
  obtain⟨us,hus,hl,rus⟩:=pD hR hT hy
  refine⟨u::us,?_,by simp[hl],fun i h1 h2=>?_⟩
  ·rw[List.mapM_cons,Sem.run_bind,hu]
   simp only[Result.andThen_ok,Sem.run_bind,hus,Sem.run_pure]
  ·cases i with
   |zero=>exact ru
   |succ i=>simpa using rus i (by simpa using h1) (by simpa using h2)
theorem qG{fn:Func}{us:List Value}{tmps:Array Value}(h:(fn.results.toList.mapM fun r=>(match r with| .tmp t=>pure (tmps.getD t undef)| .cell b t=>do loadVar t (←asAddr (tmps.getD b undef)):Sem Value)).run P w= .ok us w):
  (results fn tmps).run P w= .ok (match us with|[u]=>u|l=> .tuple l.toArray) w:=by
 unfold results
 rw[Sem.run_bind,Array.mapM_eq_mapM_toList,Sem.run_map]
 refine(congrArg (fun r=>(Result.andThen r fun a w'=>Result.ok (List.toArray a) w').andThen fun vs w'=>Sem.run P (pure (if h:vs.size=1 then vs[0]else .tuple vs)) w') (Eq.trans ?_ h)).trans ?_
 ·congr 1
 ·simp only[Result.andThen_ok,Sem.run_pure]
  match us with
  |[]=>rfl
  |[u]=>rfl
  |u::v::l=>simp
theorem vg(l:List Tmp)(h:l.length≠1)(s:Nat→AV):jY l s= .bz (l.map s):=by
 rcases l with _|⟨a,_|⟨b,l⟩⟩
 ·rfl
 ·exact absurd rfl h
 ·rfl
theorem ag.bj{hint:Nat→Bool}{f:FuncId}{fn:Func}{body:Code}(hf:P.funcs[f]?=some fn)(hn:(fn.name== "runtime.NumGoroutine")=false)(hb:fn.body=some body)(rs:List ResultVar)(hr:fn.results.toList=rs)
  {args:List AV} {H:aa} {res:lH} {H':aa} (ha:args.length≤fn.ntmps) (h:dQ P hint fn.ntmps H body (aZ P rs H res H') (kC args) H):ag P f args H res H':=by
 intro φ N w vals hR hA
 refine .inl ⟨je hf hn (by rw[hb];rfl) vals w,kP hf hb ha h hR hA ?_⟩
 intro ax s' H1 φ1 N1 tmps w' hI1 hq
 have fin:(∃avs s'',aJ P H1 s' rs=some avs∧ay H (fun t=>avs.getD t .top) H1 s'' H'∧res= .ok (jY (List.range avs.length) s''))→∃v,(results fn tmps).run P w'= .ok v w'∧∃φ' N',Rel H' φ' N' w'∧aF H φ N w H' φ' N' w'∧vN H' φ' N' w' res (.returned v):=by
  rintro⟨avs,s'',hav,hW,rfl⟩
  obtain⟨us,hus,hl,hru⟩:=pD hI1.rel hI1.tmps hav
  have hI2:Inv H φ N w us.length ⟨true,[]⟩ (fun t=>avs.getD t .top) H1 φ1 N1 {tmps:=us.toArray,defers:=[]} w':=by
   refine⟨hI1.rel,fun t=>?_,hI1.since,by simp,jn.refl⟩
   by_cases ht:t<avs.length
   ·have e1:avs.getD t .top=avs[t]:=by simp[List.getD,ht]
    have e2:(us.toArray:Array Value).getD t undef=us[t]'(by omega):=by
     rw[Array.getD_eq_getD_getElem?];simp[show t<us.length by omega]
    simp only[e1,e2]
    exact hru t ht (by omega)
   ·have e1:avs.getD t .top= .top:=by simp[List.getD,List.getElem?_eq_none (Nat.le_of_not_lt ht)]
    simp only[e1]
    exact .top _
  obtain⟨φ2,N2,hI3⟩:=hW.ok hR hI2
  refine⟨_,qG (by rw[hr];exact hus),φ2,N2,hI3.rel,hI3.since,?_⟩
  have at_:∀t,RA H' φ2 N2 w' (s'' t) ((us.toArray:Array Value).getD t undef):=hI3.tmps
  show RA H' φ2 N2 w' (jY (List.range avs.length) s'') _
  match us,hl with
  |[],hl=>
   have:avs=[]:=List.eq_nil_of_length_eq_zero hl
   subst this
   exact .bz _ _ rfl fun i h1=>by simp at h1
  |[u],hl=>
   have:avs.length=1:=hl
   rw[this]
   exact at_ 0
  |u::v::l,hl=>
   have e:jY (List.range avs.length) s''= .bz ((List.range avs.length).map s''):=by
    exact vg _ (by simp[hl]) s''
   rw[e]
   refine .bz _ _ (by simp[hl]) fun i h1 h2=>?_
   have:=at_ i
   rw[Array.getD_eq_getD_getElem?]at this
   simp only[List.size_toArray]at h2
   rw[List.getElem?_toArray,List.getElem?_eq_getElem h2]at this
   simpa using this
 cases ax with
 |normal=>exact fin hq
 |ret=>exact fin hq
 |exit i=>exact hq.elim
 |panic v=>
  obtain⟨s'',hW,rfl⟩:=hq
  obtain⟨φ2,N2,hI2⟩:=hW.ok hR hI1
  exact⟨φ2,N2,hI2.rel,hI2.since,rfl⟩
theorem aZ.ret{rs:List ResultVar}{H T:aa}{s:Nat→AV}{r:AV}(h:ob (aJ P (H++T) s rs) fun avs=>r=jY (List.range avs.length) fun t=>sx (H++T) H.length (avs.getD t .top)):aZ P rs H (.ok r) H .ret s (H++T):=by
 cases e:aJ P (H++T) s rs with
 |none=>rw[e]at h;exact h.elim
 |some avs=>
  rw[e]at h
  exact⟨avs,_,e,ay.drop H T _,by rw[show r=_ from h]⟩
end
theorem Rel.freeze{H:aa}{φ:bI}{N:Addr→Prop}{w:World}{id k ver:Nat}{e:TypeId}{es:List (List D)}(hR:Rel H φ N w)(ho:H[id]?=some (.arr e k ver es)):
  ∃φ' N',Rel (H.set id (.arr e k (ver+1) [])) φ' N' w∧aF H φ N w (H.set id (.arr e k (ver+1) [])) φ' N' w∧
   ∀off len v,RA H φ N w (.sl id ver off len) v→RA (H.set id (.arr e k (ver+1) [])) φ' N' w (.d (.list false ((es.drop off).take len))) v:=by
 have hid:id<H.length:=az ho
 have hobj:=hR.obj id _ ho
 cases hobj with
 |arr _ _ _ _ hk hes hbl=>
 let φ':bI:=fun j=>if j=id then none else φ j
 let N':Addr→Prop:=fun a=>N a∨∃B c,φ id=some (B,c)∧a.block=B∧a.spot=none∧a.off<es.length* k
 have hφ:∀j,j≠id→φ' j=φ j:=fun j hj=>if_neg hj
 have hφi:φ' id=none:=if_pos rfl
 have hS:aF H φ N w (H.set id (.arr e k (ver+1) [])) φ' N' w:=by
  refine⟨by simp,rfl,rfl,rfl,Nat.le_refl _,fun _ _ _=>rfl,fun j B c hj hp _=>?_,fun _ h=> .inl h,fun j o hj=>?_,fun a h=>?_⟩
  ·by_cases hji:j=id
   ·subst hji;rw[hφi]at hp;cases hp
   ·rw[hφ j hji]at hp
    exact⟨j,c,by simpa using hj,hp⟩
  ·by_cases hji:j=id
   ·subst hji
    rw[ho]at hj;cases hj
    refine⟨.arr e k (ver+1) [],by simp[hid],rfl,Nat.le_succ _,fun h=>?_,fun kk es' h=>by cases h⟩
    simp only[aT.ver]at h
    omega
   ·refine⟨o,by rw[List.getElem?_set_ne (Ne.symm hji)];exact hj,rfl,Nat.le_refl _,fun _=>⟨hφ j hji,Nat.le_refl _⟩,fun kk es' h=>⟨hφ j hji,es',h⟩⟩
  ·rcases h with h|⟨B,c,hp,h,_⟩
   ·exact .inl h
   ·exact .inr (.inr ⟨id,c,hid,by rw[h];exact hp⟩)
 refine⟨φ',N',⟨fun j o hj=>?_,fun i j B c c' hi hj hpi hpj=>?_,fun a ha=>?_,fun a j B c ha hj hp=>?_⟩,hS,fun off len v hv=>?_⟩
 ·by_cases hji:j=id
  ·subst hji
   simp[hid]at hj
   subst hj
   exact .arr e k (ver+1) [] hk (fun c hc=>by simp at hc) (.inl ⟨hφi,rfl⟩)
  ·rw[List.getElem?_set_ne (Ne.symm hji)]at hj
   exact(hR.obj j o hj).ev hR hS (hφ j hji) fun _ _ _=>rfl
 ·have hi':i≠id:=fun h=>by subst h;rw[hφi]at hpi;cases hpi
  have hj':j≠id:=fun h=>by subst h;rw[hφi]at hpj;cases hpj
  rw[hφ i hi']at hpi
  rw[hφ j hj']at hpj
  exact hR.inj i j B c c' (by simpa using hi) (by simpa using hj) hpi hpj
 ·rcases ha with ha|⟨B,c,hB,h1,h2,h3⟩
  ·exact hR.live a ha
  ·rcases hbl with⟨g0,_⟩|⟨B',cap,cur,g1,g2,g3,g4,g5,g6⟩
   ·rw[g0]at hB;cases hB
   ·rw[g1]at hB;cases hB
    have hlt:a.off<cur.size:=by have:=Nat.mul_le_mul_right k g3;omega
    refine⟨cur[a.off],?_⟩
    simp[World.cell?,h1,g2,h2,hlt]
 ·have hj':j≠id:=fun h=>by subst h;rw[hφi]at hp;cases hp
  rw[hφ j hj']at hp
  have hj2:j<H.length:=by simpa using hj
  rcases ha with ha|⟨B0,c0,hB,h1,_⟩
  ·exact hR.apart a j B c ha hj2 hp
  ·intro hab
   have:B0=B:=h1.symm.trans hab
   subst this
   exact hj' (hR.inj j id B0 c c0 hj2 hid hp hB)
 ·cases hv with
  |sl _ _ _ _ A l m' o ho' hv' hp=>
  rw[ho]at ho';cases ho'
  obtain⟨rfl,h1,h2⟩:=hp rfl
  simp only[aT.len]at h1
  by_cases hl0:l=0
  ·subst hl0
   simp only[List.take_zero]
   exact .d (.nil _ _ (by rcases h2 with⟨_,_,_,rfl⟩|⟨B,c,_,_,rfl,_⟩;exact fun _=>rfl;exact fun h=>by cases h))
  rcases h2 with⟨_,h3,_⟩|⟨B,c,h3,h4,rfl,rfl⟩
  ·omega
  rcases hbl with⟨g0,_⟩|⟨B',cap,cur,g1,g2,g3,g4,g5,g6⟩
  ·rw[g0]at h3;cases h3
  have hφ3:=h3
  obtain⟨e1,e2⟩:=Prod.mk.inj (Option.some.inj (g1.symm.trans h3))
  subst e1 e2
  have hel:((es.drop off).take l).length=l:=by simp;omega
  have key:=RD.list (N:=N') (w:=w) false ((es.drop off).take l) ⟨B',off* k,none⟩ (cap-off) k (fun i j=>cur.getD ((off+i)* k+j) undef) (by rw[hel];omega)
   (fun e he=>hes e (List.mem_of_mem_drop (List.mem_of_mem_take he))) (fun i j hi hj=>by
    rw[hel]at hi
    have hlt:(off+i)* k+j<es.length* k:=eI hj (by omega)
    have hlt2:(off+i)* k+j<cur.size:=by have:=Nat.mul_le_mul_right k g3;omega
    have hpos:off* k+(i* k+j)=(off+i)* k+j:=by rw[Nat.add_mul];omega
    rw[add_plain,hpos]
    refine⟨.inr ⟨B',cap,hφ3,rfl,rfl,hlt⟩,?_⟩
    simp[World.cell?,g2,Array.getD,hlt2]) (fun i hi j hj=>by
    rw[hel]at hi
    simp only[List.getElem_take,List.getElem_drop]at hj⊢
    obtain⟨u,hu,hd⟩:=g6 (off+i) (by omega) j hj
    have hget:cur.getD ((off+i)* k+j) undef=u:=by
     rw[Array.getD_eq_getD_getElem?,hu];rfl
    simp only[hget]
    exact hd.since hR hS)
  rw[hel]at key
  exact .d key
theorem ag.freeze{P:Program}{f:FuncId}(pre:List AV){post:List AV}{id k ver off len:Nat}{e:TypeId}{es:List (List D)}{H H':aa}{res:lH}(ho:H[id]?=some (.arr e k ver es))
  (h:ag P f (pre++ .d (.list false ((es.drop off).take len))::post) (H.set id (.arr e k (ver+1) [])) res H'):ag P f (pre++ .sl id ver off len::post) H res H':=by
 intro φ N w vals hR hA
 obtain⟨φ1,N1,hR1,hS1,hv⟩:=hR.freeze ho
 have hA1:tF (H.set id (.arr e k (ver+1) [])) φ1 N1 w (pre++ .d (.list false ((es.drop off).take len))::post) vals:=by
  refine⟨by rw[←hA.1];simp,fun i h1 h2=>?_⟩
  have h3:=hA.2 i (by simpa using h1) h2
  by_cases hi:i=pre.length
  ·subst hi
   simp only[List.getElem_append_right (Nat.le_refl _),Nat.sub_self,List.getElem_cons_zero]at h3⊢
   exact hv off len _ h3
  ·rcases Nat.lt_or_ge i pre.length with hlt|hge
   ·rw[List.getElem_append_left hlt]at h3⊢
    exact h3.since hR hS1
   ·rw[List.getElem_append_right hge]at h3⊢
    obtain⟨j,hj⟩:∃j,i-pre.length=j+1:=⟨i-pre.length-1,by omega⟩
    simp only[hj,List.getElem_cons_succ]at h3⊢
    exact h3.since hR hS1
 have h4:=h φ1 N1 w vals hR1 hA1
 have go:∀e' w',(∃φ' N',Rel H' φ' N' w'∧aF (H.set id (.arr e k (ver+1) [])) φ1 N1 w H' φ' N' w'∧vN H' φ' N' w' res e')→∃φ' N',Rel H' φ' N' w'∧aF H φ N w H' φ' N' w'∧vN H' φ' N' w' res e':=by
  rintro e' w' ⟨φ',N',hR',hS',hE⟩
  exact⟨φ',N',hR',hS1.trans hS',hE⟩
 rcases h4 with⟨h5,h6⟩|⟨v,w',h5,h6⟩
 ·exact .inl ⟨h5,h6.mono go⟩
 ·exact .inr ⟨v,w',h5,go _ _ h6⟩
theorem ae.sx{P:Program}{f:FuncId}(pre:List AV){post:List AV}{id k ver off len:Nat}{e:TypeId}{es:List (List D)}{H H':aa}{K:AV→aa→Prop}{KP:Value→aa→Prop}{r:AV}(ho:H[id]?=some (.arr e k ver es))
  (h:ag P f (pre++ .d (.list false ((es.drop off).take len))::post) (H.set id (.arr e k (ver+1) [])) (.ok r) H') (hk:K r H'):ae P f (pre++ .sl id ver off len::post) H K KP:=ae.ok (ag.freeze pre ho h) hk
def Ext(B H:aa):Prop:=∀(id:Nat) (o:aT),B[id]?=some o→o.live=true→H[id]?=some o
theorem Ext.refl(B:aa):Ext B B:=fun _ _ h _=>h
theorem Ext.app(B T:aa):Ext B (B++T):=fun id o h _=>by rw[List.getElem?_append_left (az h)];exact h
def H5:aa→aa→Prop
 |[],_=>True
 |o::os,o'::os'=>(o.live=true→o'=o)∧H5 os os'
 |_::_,[]=>False
theorem H5.get:∀{B T:aa},H5 B T→∀(i:Nat) (o:aT),B[i]?=some o→o.live=true→T[i]?=some o
 |[],_,_,i,o,h,_=>by simp at h
 |b::B,[],h,i,o,_,_=>h.elim
 |b::B,t::T,h,0,o,ho,hl=>by
  simp only[List.getElem?_cons_zero,Option.some.injEq]at ho⊢
  subst ho
  exact h.1 hl
 |b::B,t::T,h,i+1,o,ho,hl=>by
  rw[List.getElem?_cons_succ]at ho⊢
  exact H5.get h.2 i o ho hl
theorem Ext.gS(H:aa){B T:aa}(h:H5 B T):Ext (H++B) (H++T):=fun i o ho hl=>by
 rcases Nat.lt_or_ge i H.length with hi|hi
 ·rw[List.getElem?_append_left hi]at ho⊢;exact ho
 ·rw[List.getElem?_append_right hi]at ho⊢;exact h.get _ o ho hl
def JN(hint:Bool):Op→Bool
 | .move _| .assign _| .pick .. | .build .. | .field .. | .index .. | .unOp .. | .convert .. | .extract .. | .sliceToArrayPointer .. | .makeInterface .. =>true
 | .makeFunc (.func _) _ _=>true
 | .buildSlice .. => !hint
 | .binOp op _ _ _ _=>(match op with| .eql| .neq=>false|_=>true)
 |_=>false
theorem F8{P:Program}{s:Nat→AV}{H H2:aa}{hint:Bool}{op:Op}{K:AV→aa→Prop}(h:JN hint op=true):iQ P s H hint op K=iQ P s H2 hint op fun r _=>K r H:=by
 by_cases hb:∃o t x y t',op= .binOp o t x y t'
 ·obtain⟨o,t,x,y,t',rfl⟩:=hb
  cases o<;>first|(unfold iQ;simp only[nN,Bool.false_and,Bool.false_eq_true,false_and];done)|(cases h;done)
 cases op<;>first|rfl|cases h|(exact absurd ⟨_,_,_,_,_,rfl⟩ hb)|skip
 ·cases hint
  ·unfold iQ
   rfl
  ·cases h
 ·rename_i f _ _
  cases f<;>first|rfl|cases h
theorem D4{B H:aa}(hE:Ext B H){id ver i j n:Nat}{cs:List AV}(h:ah B id ver i j n=some cs):ah H id ver i j n=some cs:=by
 unfold ah at h⊢
 cases hb:B[id]? with
 |none=>rw[hb]at h;cases h
 |some o=>
  rw[hb]at h
  have hl:o.live=true:=by cases o<;>first|rfl|cases h
  rw[hE id o hb hl];exact h
theorem uY{B H:aa}(hE:Ext B H){n:Nat}{x:AV}{cs:List AV}(h:gD B n x=some cs):gD H n x=some cs:=by
 cases x with
 |ptr id ver i j=>exact D4 hE h
 |dt=>exact h
 |_=>cases h
def HO:Op→Bool
 | .load .. =>true
 | .fieldAddr .. =>true
 | .indexAddr .. =>true
 | .slice _ _ _ _ none=>true
 |_=>false
theorem AI{B H:aa}(hE:Ext B H){k:Nat}{lo:Option Int}{hi:Nat→Option Int}{x:AV}{K:AV→aa→Prop}{r:AV}(h:eB B k lo hi (fun r' _=>r'=r) x)(hk:K r H):eB H k lo hi K x:=by
 cases x with
 |d u=>
  cases u with
  |v _=>exact h.elim
  |list nn es=>
   simp only[eB]at h⊢
   refine⟨h.1,?_⟩
   replace h:=h.2
   cases lo with
   |none=>exact h
   |some l=>
    cases hq:hi es.length with
    |none=>rw[hq]at h;exact h
    |some m=>rw[hq]at h;exact⟨h.1,h.2.1,h.2.2.1,by rw[h.2.2.2];exact hk⟩
 |sl id ver off len=>
  simp only[eB]at h⊢
  cases ho:B[id]? with
  |none=>rw[ho]at h;exact h.elim
  |some o=>
   rw[ho]at h
   cases lo with
   |none=>exact h.elim
   |some l=>
    cases hq:hi len with
    |none=>rw[hq]at h;exact h.elim
    |some m=>
     rw[hq]at h
     rw[hE id o ho h.1.2.2]
     exact⟨h.1,h.2.1,h.2.2.1,h.2.2.2.1,h.2.2.2.2.1,by rw[h.2.2.2.2.2];exact hk⟩
 |_=>exact h.elim
theorem uT{B H:aa}(hE:Ext B H){x:AV}(h:fresh B x=true):fresh H x=true:=by
 cases x with
 |ptr id ver i j=>
  rw[uP]at h⊢
  cases hb:B[id]? with
  |none=>rw[hb]at h;cases h
  |some o=>
   rw[hb]at h
   rw[hE id o hb (by simp only[Bool.and_eq_true]at h;exact h.2)]
   exact h
 |_=>rfl
theorem EF{B H:aa}(hE:Ext B H){k:Nat}{i:Int}{x y:AV}(h:jO B k i x=some y):jO H k i x=some y:=by
 cases x with
 |d u=>cases u<;>exact h
 |sl id ver off len=>
  simp only[jO]at h⊢
  split at h
  ·rename_i h0
   rw[if_pos h0]
   obtain⟨ob,hob,h⟩:=Option.bind_eq_some_iff.1 h
   split at h
   ·rename_i hv
    rw[hE id ob hob hv.2.2,Option.bind_some,if_pos hv]
    exact h
   ·cases h
  ·cases h
 |_=>exact h
theorem GB{P:Program}{s:Nat→AV}{B H:aa}{hint:Bool}{op:Op}(hl:HO op=true)(hE:Ext B H){K:AV→aa→Prop}{r:AV}
  (h:iQ P s B hint op fun r' _=>r'=r) (hk:K r H):iQ P s H hint op K:=by
 by_cases hfa:∃t x f,op= .fieldAddr t x f
 ·obtain⟨t,x,f,rfl⟩:=hfa
  unfold iQ at h⊢
  simp only at h⊢
  cases hf:FO P t f with
  |none=>rw[hf]at h;exact h
  |some of=>
   rw[hf]at h
   simp only at h⊢
   cases hi:TI P of.2 with
   |none=>rw[hi]at h;exact h
   |some z=>
    rw[hi]at h
    obtain⟨h1,h2,h⟩:=h
    refine⟨h1,uT hE h2,?_⟩
    cases ha:jA of.1 (ao s x)with
    |none=>rw[ha]at h;exact h
    |some y=>rw[ha]at h;rw[show y=r from h];exact hk
 by_cases hia:∃t x ix,op= .indexAddr t x ix
 ·obtain⟨t,x,ix,rfl⟩:=hia
  unfold iQ at h⊢
  simp only at h⊢
  split at h
  ·split at h
   ·split at h
    ·split at h
     ·rename_i ha
      rw[EF hE ha]
      rw[show _=r from h]
      exact hk
     ·exact h.elim
    ·exact h.elim
   ·split at h
    ·split at h
     ·obtain⟨h0,h1,h2,h⟩:=h
      refine⟨h0,h1,uT hE h2,?_⟩
      split at h
      ·rename_i ha
       rw[show _=r from h]
       exact hk
      ·exact h.elim
     ·exact h.elim
    ·exact h.elim
  ·exact h.elim
 cases op<;>first|(exact absurd ⟨_,_,_,rfl⟩ hfa)|(exact absurd ⟨_,_,_,rfl⟩ hia)|cases hl|skip
 rotate_left
 ·rename_i t x lo hi mx
  cases mx with
  |some _=>cases hl
  |none=>
  unfold iQ at h⊢
  simp only at h⊢
  cases he:SE P t with
  |none=>
   rw[he]at h
   simp only at h⊢
   cases hae:AE P t with
   |some ne=>
    rw[hae]at h
    simp only at h⊢
    obtain⟨h1,h⟩:=h
    refine⟨h1,?_⟩
    cases hi2:TI P ne.2 with
    |none=>rw[hi2]at h;exact h
    |some z=>
     rw[hi2]at h
     obtain⟨h2,h⟩:=h
     refine⟨h2,?_⟩
     generalize ao s x=v at*
     cases v with
     |dt ds=>exact⟨h.1,by rw[show(AV.d (.list true (ds.map fun d=>[d])))=r from h.2];exact hk⟩
     |_=>exact h.elim
   |none=>
   rw[hae]at h
   obtain⟨hu,h⟩:=h
   refine⟨hu,?_⟩
   split at h
   ·rename_i c hc
    split at h
    ·rename_i l m hl hm
     first
      |exact⟨h.1,h.2.1,h.2.2.1,by rw[h.2.2.2];exact hk⟩
      |(rw[hl,hm];exact⟨h.1,h.2.1,h.2.2.1,by rw[h.2.2.2];exact hk⟩)
    ·exact h.elim
   ·exact h.elim
  |some e=>
   rw[he]at h
   simp only at h⊢
   cases hi2:TI P e with
   |none=>rw[hi2]at h;exact h
   |some z=>
    rw[hi2]at h
    obtain⟨z,k,b⟩:=z
    exact AI hE h hk
 rename_i t x
 unfold iQ at h⊢
 simp only at h⊢
 cases hg:gT P t with
 |none=>rw[hg]at h;exact h
 |some b=>
  rw[hg]at h
  cases b with
  |true=>
   simp only at h⊢
   split at h
   ·split at h
    ·rename_i cs hr
     rw[uY hE hr]
     subst h
     exact hk
    ·exact h.elim
   ·exact h.elim
  |false=>
   simp only at h⊢
   split at h
   ·rename_i c hr
    rw[uY hE hr]
    subst h
    exact hk
   ·exact h.elim
def k9(hint:Nat→Bool)(first:Bool)(o:Oper):Bool:=JN (match o.dst with|some d=>hint d|none=>false) o.op||(first&&HO o.op)
section
variable (P:Program) (hint:Nat→Bool) (n:Nat) (ops:Array Oper)
def di(H:aa)(s:Nat→AV)(o:Oper)(r:AV)(H':aa):Prop:=match o.guard with
 |none=>∀K KP,K r H'→aN P hint s H o K KP
 |some (j,want)=>∃b,iP ops s n j want=some b∧if b=true then ∀K KP,K r H'→aN P hint s H o K KP else r= .bz []∧H'=H
end
section
variable {P:Program} {hint:Nat→Bool} {n:Nat} {ops:Array Oper} {Q:bH}
theorem di.op{H H':aa}{s:Nat→AV}{o:Oper}{r:AV}(h:di P hint n ops H s o r H'){K:(Nat→AV)→aa→Prop}(hk:K (cv n s o.dst r) H'):ek P hint n ops Q o K s H:=by
 unfold di at h
 unfold ek
 split at h
 ·rename_i hg
  simp only[hg]
  exact h (fun r H'=>K (cv n s o.dst r) H') _ hk
 ·rename_i j want hg
  obtain⟨b,hb,h⟩:=h
  simp only[hg,hb]
  split at h
  ·rw[if_pos (by assumption)];exact h (fun r H'=>K (cv n s o.dst r) H') _ hk
  ·rw[if_neg (by assumption)];rw[h.1,h.2]at hk;exact hk
theorem di.congr{H H':aa}{s s':Nat→AV}{o:Oper}{r:AV}(h:di P hint n ops H s o r H')(h1:∀t∈l8 o,s t=s' t)(h2:∀j w,o.guard=some (j,w)→∀d,bV ops j=some d→s d=s' d):di P hint n ops H s' o r H':=by
 unfold di at h⊢
 split at h
 ·rename_i hg
  try simp only[hg]
  intro K KP hk
  rw[←jK h1]
  exact h K KP hk
 ·rename_i j want hg
  try simp only[hg]
  obtain⟨b,hb,h⟩:=h
  refine⟨b,?_,?_⟩
  ·rw[←hb]
   unfold iP
   have:=h2 j want hg
   unfold bV at this
   cases hd:(ops[j]?).bind (·.dst)with
   |none=>rfl
   |some d=>simp only[this d hd]
  ·split at h
   ·rw[if_pos (by assumption)]
    intro K KP hk
    rw[←jK h1]
    exact h K KP hk
   ·rw[if_neg (by assumption)];exact h
theorem sP(hc:s6 hint ops)(m:Nat)(hm:m≤ops.size)(htl:∀i o,ops[i]?=some o→(i=m→∀j,j<m→dG ops 12 i j=true)∧(m<i→bM o (i-1)=true))(s:Nat→AV)(rs:Nat→AV)(HR:(Nat→Bool)→aa→Prop)
  (hHR:∀L L' H,(∀i,i<m→L i=L' i)→HR L H→HR L' H)
  (hstep:∀(L:Nat→Bool) (H:aa) i o,HR L H→i<m→ops[i]?=some o→L i=false→(∀j oj i',ops[j]?=some oj→L j=true→bM oj i'=true→L i'=true)→(∀j,bM o j=true→L j=true)→
   ∃H',di P hint n ops H (cd n ops s rs i) o (rs i) H'∧HR (fun j=>if j=i then true else L j) H')
  (hQ:∀L H,(∀i,i<m→L i=true)→HR L H→bK P hint n ops Q (ops.toList.drop m) (cd n ops s rs m) H):
  ∀(fuel:Nat) (listed:Array Bool) (s':Nat→AV) (H:aa),listed.size=ops.size→(List.range ops.size).countP (fun j=> !listed.getD j true)≤fuel→
   (∀t j,bV ops j=some t→s' t=if listed.getD j false=true then(if t<n then rs j else .top)else s t)→(∀t,(∀j,bV ops j≠some t)→s' t=s t)→
   (∀j oj i,ops[j]?=some oj→listed.getD j false=true→bM oj i=true→listed.getD i false=true)→(∀i,m≤i→i<ops.size→listed.getD i false=false)→
   HR (fun c=>listed.getD c false) H→iM P hint n ops Q fuel listed s' H:=by
 have st_no:∀k t,(∀j,j<k→bV ops j≠some t)→cd n ops s rs k t=s t:=by
  intro k t
  induction k with
  |zero=>intro _;rfl
  |succ k ih=>
   intro h
   simp only[cd]
   cases hd:bV ops k with
   |none=>exact ih fun j hj=>h j (by omega)
   |some d=>
    simp only[cv]
    have:t≠d:=fun e=>h k (by omega) (by rw[hd,e])
    rw[if_neg this]
    exact ih fun j hj=>h j (by omega)
 have st_dst:∀k t j,bV ops j=some t→j<k→cd n ops s rs k t=if t<n then rs j else .top:=by
  intro k t j hj
  induction k with
  |zero=>intro h;omega
  |succ k ih=>
   intro h
   simp only[cd]
   by_cases e:j=k
   ·subst e
    rw[hj]
    simp only[cv,if_pos]
   ·have:=ih (by omega)
    cases hd:bV ops k with
    |none=>exact this
    |some d=>
     simp only[cv]
     have hne:t≠d:=fun e'=>e (hc.once j k t hj (by rw[hd,e']))
     rw[if_neg hne]
     exact this
 have bind_of:∀(listed:Array Bool) (o:Oper) (j:Nat),(o.after.all fun e=> !Region.binds .any e||listed.getD e.on false)=true→bM o j=true→listed.getD j false=true:=by
  intro listed o j h1 h2
  unfold bM at h2
  rw[List.any_eq_true]at h2
  obtain⟨e,he,h2⟩:=h2
  rw[Array.all_eq_true_iff_forall_mem]at h1
  have:=h1 e (Array.mem_toList_iff.1 he)
  simp only[Bool.and_eq_true,beq_iff_eq]at h2
  simpa[h2.1,h2.2]using this
 have fin:∀(listed:Array Bool) (s':Nat→AV),(∀i,i<m→listed.getD i true=true)→(∀i,m≤i→i<ops.size→listed.getD i false=false)→listed.size=ops.size→
   (∀t j,bV ops j=some t→s' t=if listed.getD j false=true then(if t<n then rs j else .top)else s t)→(∀t,(∀j,bV ops j≠some t)→s' t=s t)→s'=cd n ops s rs m:=by
  intro listed s' hall hno hsz h1 h2
  funext t
  by_cases hd:∃j,bV ops j=some t
  ·obtain⟨j,hj⟩:=hd
   have hjl:=fW hj
   rcases Nat.lt_or_ge j m with hjm|hjm
   ·have:listed.getD j false=true:=by
     have:=hall j hjm
     simpa[Array.getD,show j<listed.size by omega]using this
    rw[h1 t j hj,if_pos this,st_dst _ t j hj hjm]
   ·rw[h1 t j hj,if_neg (by simp[hno j hjm hjl]),st_no m t fun j' hj' hd'=>by
     have:=hc.once j' j t hd' hj
     omega]
  ·have hd':∀j,bV ops j≠some t:=fun j hj=>hd ⟨j,hj⟩
   rw[h2 t hd',st_no _ t fun j _=>hd' j]
 intro fuel
 induction fuel with
 |zero=>
  intro listed s' H hsz hcnt h1 h2 hcl hno hq
  have hall:∀i,i<ops.size→listed.getD i true=true:=by
   intro i hi
   have h0:(List.range ops.size).countP (fun j=> !listed.getD j true)=0:=by omega
   rw[List.countP_eq_zero]at h0
   simpa using h0 i (List.mem_range.2 hi)
  have hs':=fin listed s' (fun i hi=>hall i (by omega)) hno hsz h1 h2
  subst hs'
  have hQ:=hQ _ H (fun i hi=>by have:=hall i (by omega);simpa[Array.getD,show i<listed.size by omega]using this) hq
  exact iY hc (fun i o ho hi=>(htl i o ho).2 hi) hsz m (Nat.le_refl _) hm (fun i hi=>hall i (by omega)) (fun i hi hi2=>hno i hi hi2) hQ (by
   rcases Nat.lt_or_ge m ops.size with h|h
   ·have e1:=hall m h
    have e2:=hno m (Nat.le_refl _) h
    simp[Array.getD,show m<listed.size by omega]at e1 e2
    rw[e1]at e2
    cases e2
   ·omega)
 |succ fuel ih=>
  intro listed s' H hsz hcnt h1 h2 hcl hno hq
  by_cases hpre:∀i,i<m→listed.getD i true=true
  ·have hs':=fin listed s' hpre hno hsz h1 h2
   subst hs'
   have hQ:=hQ _ H (fun i hi=>by have:=hpre i hi;simpa[Array.getD,show i<listed.size by omega]using this) hq
   refine iY hc (fun i o ho hi=>(htl i o ho).2 hi) hsz m (Nat.le_refl _) hm hpre hno hQ ?_
   have hsub:(List.range ops.size).countP (fun j=>decide (m≤j))≤(List.range ops.size).countP (fun j=> !listed.getD j true):=by
    refine List.countP_mono_left fun j hj hmj=>?_
    have hj:=List.mem_range.1 hj
    have:=hno j (by simpa using hmj) hj
    simp[Array.getD,show j<listed.size by omega]at this⊢
    exact this
   have hcm:∀N,m≤N→(List.range N).countP (fun j=>decide (m≤j))=N-m:=by
    intro N hN
    induction N with
    |zero=>simp
    |succ N ihN=>
     rw[List.range_succ,List.countP_append,List.countP_singleton]
     by_cases e:m≤N
     ·rw[ihN e];simp[e];omega
     ·have e':m=N+1:=by omega
      have:(List.range N).countP (fun j=>decide (m≤j))=0:=by
       rw[List.countP_eq_zero]
       intro j hj
       have:=List.mem_range.1 hj
       simp;omega
      rw[this];simp[e];omega
   rw[hcm _ hm]at hsub
   omega
  have hex:∃i,i<m∧listed.getD i true=false∧∀j,j<i→listed.getD j true=true:=by
   have:∃i,i<m∧listed.getD i true=false:=by
    rcases Classical.not_forall.1 hpre with⟨i,hi⟩
    rcases Classical.not_imp.1 hi with⟨h1,h2⟩
    exact⟨i,h1,by simpa using h2⟩
   obtain⟨i,hi⟩:=this
   induction i using Nat.strongRecOn with
   |_ i ihi=>
    by_cases hj:∃j,j<i∧listed.getD j true=false
    ·obtain⟨j,hj1,hj2⟩:=hj
     exact ihi j hj1 ⟨by omega,hj2⟩
    ·refine⟨i,hi.1,hi.2,fun j hji=>?_⟩
     cases hq:listed.getD j true with
     |true=>rfl
     |false=>exact absurd ⟨j,hji,hq⟩ hj
  obtain⟨i0,hi0,hu0,hb0⟩:=hex
  refine⟨fun hr=>?_,fun i hi=>?_⟩
  ·exfalso
   have hlt0:i0<ops.size:=by omega
   have hget:ops[i0]?=some ops[i0]:=by simp[hlt0]
   have:i0∈Region.ready .any ops listed:=by
    unfold Region.ready
    rw[List.mem_filter]
    refine⟨List.mem_range.2 hlt0,?_⟩
    simp only[hu0,hget,Bool.not_false,Bool.true_and,Option.map_some,Option.getD_some]
    rw[Array.all_eq_true_iff_forall_mem]
    intro e he
    cases hbe:Region.binds .any e
    ·simp
    have hlt:=hc.down i0 _ hget e he hbe
    have:=hb0 e.on hlt
    have:listed.getD e.on false=true:=by simpa[Array.getD,show e.on<listed.size by omega]using this
    simp[this]
   rw[hr]at this
   simp at this
  ·unfold Region.ready at hi
   rw[List.mem_filter]at hi
   obtain⟨hi,hrd⟩:=hi
   have hi:=List.mem_range.1 hi
   have hget:ops[i]?=some ops[i]:=by simp[hi]
   simp only[hget,Option.map_some,Option.getD_some,Bool.and_eq_true,Bool.not_eq_true']at hrd
   obtain⟨hun,haft⟩:=hrd
   simp only[hget]
   have hdst:bV ops i=(ops[i]).dst:=by simp[bV,hget]
   have hun':listed.getD i false=false:=by simpa[Array.getD,show i<listed.size by omega]using hun
   have him:i<m:=by
    rcases Nat.lt_or_ge i m with h|h
    ·exact h
    ·exfalso
     have hu0':listed.getD i0 false=false:=by simpa[Array.getD,show i0<listed.size by omega]using hu0
     rcases Nat.lt_or_ge m i with h2|h2
     ·have:=bind_of listed ops[i] (i-1) haft ((htl i _ hget).2 h2)
      rw[hno (i-1) (by omega) (by omega)]at this
      cases this
     ·have him:i=m:=by omega
      have:=nb hcl 12 i _ hget (fun j hj=>bind_of listed ops[i] j haft hj) i0 ((htl i _ hget).1 him i0 hi0)
      rw[this]at hu0'
      cases hu0'
   have agree:∀t j,bV ops j=some t→bM ops[i] j=true→cd n ops s rs i t=s' t:=by
    intro t j hj hb
    have hl:=bind_of listed ops[i] j haft hb
    have hlt:j<i:=by
     unfold bM at hb
     rw[List.any_eq_true]at hb
     obtain⟨e,he,hb⟩:=hb
     simp only[Bool.and_eq_true,beq_iff_eq]at hb
     have:=hc.down i _ hget e (Array.mem_toList_iff.1 he) hb.1
     omega
    rw[st_dst i t j hj hlt,h1 t j hj,if_pos hl]
   have hrd:∀t∈l8 ops[i],cd n ops s rs i t=s' t:=by
    intro t ht
    by_cases hd:∃j,bV ops j=some t
    ·obtain⟨j,hj⟩:=hd
     rcases hc.reads i _ hget t ht j hj with hb|⟨oj,hoj,hb⟩
     ·exact agree t j hj hb
     ·have hnl:listed.getD j false=false:=by
       cases hq:listed.getD j false with
       |false=>rfl
       |true=>rw[hcl j oj i hoj hq hb]at hun';cases hun'
      have hlt:i<j:=by
       unfold bM at hb
       rw[List.any_eq_true]at hb
       obtain⟨e,he,hb⟩:=hb
       simp only[Bool.and_eq_true,beq_iff_eq]at hb
       have:=hc.down j _ hoj e (Array.mem_toList_iff.1 he) hb.1
       omega
      rw[h1 t j hj,if_neg (by simp[hnl]),st_no i t fun j' hj' hd'=>by
       have:=hc.once j' j t hd' hj
       omega]
    ·have hd':∀j,bV ops j≠some t:=fun j hj=>hd ⟨j,hj⟩
     rw[st_no i t fun j _=>hd' j,h2 t hd']
   have hgd:∀j w,(ops[i]).guard=some (j,w)→∀d,bV ops j=some d→cd n ops s rs i d=s' d:=fun j w hg d hd=>agree d j hd (hc.guard i _ hget j w hg)
   have hset:∀j b,(listed.setIfInBounds i true).getD j b=if j=i then true else listed.getD j b:=by
    intro j b
    simp only[Array.getD_eq_getD_getElem?,Array.getElem?_setIfInBounds]
    by_cases e:i=j
    ·subst e;simp[hsz,hi]
    ·rw[if_neg e,if_neg (Ne.symm e)]
   have go:∀H2,HR (fun c=>(listed.setIfInBounds i true).getD c false) H2→iM P hint n ops Q fuel (listed.setIfInBounds i true) (cv n s' (ops[i]).dst (rs i)) H2:=by
    intro H2 hq2
    refine ih _ _ _ (by simpa using hsz) ?_ ?_ ?_ ?_ ?_ hq2
    ·have:=pO (p:=fun j=> !(listed.setIfInBounds i true).getD j true) (q:=fun j=> !listed.getD j true) (i:=i) (fun j hj=>by
      simp only[hset]at hj⊢
      by_cases e:j=i
      ·simp[e]at hj
      ·simpa[e]using hj) (by simp[hset]) (by simp[hun]) (List.range ops.size) (List.mem_range.2 hi)
     omega
    ·intro t j hj
     rw[hset]
     by_cases e:j=i
     ·subst e
      rw[hdst]at hj
      rw[if_pos rfl,if_pos rfl,hj]
      simp only[cv,if_pos]
     ·rw[if_neg e]
      cases hd:(ops[i]).dst with
      |none=>exact h1 t j hj
      |some d=>
       simp only[cv]
       have:t≠d:=fun e'=>e (hc.once j i t hj (by rw[hdst,hd,e']))
       rw[if_neg this]
       exact h1 t j hj
    ·intro t ht
     cases hd:(ops[i]).dst with
     |none=>exact h2 t ht
     |some d=>
      simp only[cv]
      have:t≠d:=fun e'=>ht i (by rw[hdst,hd,e'])
      rw[if_neg this]
      exact h2 t ht
    ·intro j oj i' hoj hlj hb
     rw[hset]at hlj⊢
     by_cases e':i'=i
     ·rw[if_pos e']
     ·rw[if_neg e']
      by_cases e:j=i
      ·subst e
       rw[hget]at hoj
       cases hoj
       exact bind_of listed _ i' haft hb
      ·rw[if_neg e]at hlj
       exact hcl j oj i' hoj hlj hb
    ·intro j hj hj2
     rw[hset,if_neg (by omega)]
     exact hno j hj hj2
   obtain⟨H2,hst,hr2⟩:=hstep (fun c=>listed.getD c false) H i _ hq him hget hun' hcl (fun j hj=>bind_of listed ops[i] j haft hj)
   refine di.op (hst.congr hrd hgd) (go _ (hHR _ _ _ (fun j _=>?_) hr2))
   rw[hset]
theorem nq(hc:s6 hint ops)(m:Nat)(hm:m≤ops.size)(htl:∀i o,ops[i]?=some o→(i=m→∀j,j<m→dG ops 12 i j=true)∧(m<i→bM o (i-1)=true))(s:Nat→AV)(rs:Nat→AV)(hp:Nat→aa)(ch:Nat→Bool)
  (hch:∀c c',c<c'→c'<m→ch c=true→ch c'=true→dG ops 12 c' c=true) (hfr:∀i,i<m→ch i=false→hp (i+1)=hp i)
  (hst:∀i o,i<m→ops[i]?=some o→ch i=true→di P hint n ops (hp i) (cd n ops s rs i) o (rs i) (hp (i+1)))
  (hsf:∀i o,i<m→ops[i]?=some o→ch i=false→∀j,j≤m→(∀c,c<j→ch c=true→dG ops 12 c i=false)→di P hint n ops (hp j) (cd n ops s rs i) o (rs i) (hp j))
  (hQ:bK P hint n ops Q (ops.toList.drop m) (cd n ops s rs m) (hp m)):
  ∀(fuel:Nat) (listed:Array Bool) (s':Nat→AV) (H:aa),listed.size=ops.size→(List.range ops.size).countP (fun j=> !listed.getD j true)≤fuel→
   (∀t j,bV ops j=some t→s' t=if listed.getD j false=true then(if t<n then rs j else .top)else s t)→(∀t,(∀j,bV ops j≠some t)→s' t=s t)→
   (∀j oj i,ops[j]?=some oj→listed.getD j false=true→bM oj i=true→listed.getD i false=true)→(∀i,m≤i→i<ops.size→listed.getD i false=false)→
   (∃q,q≤m∧H=hp q∧∀c,c<m→ch c=true→(listed.getD c false=true↔c<q))→iM P hint n ops Q fuel listed s' H:=by
 have hsame:∀d q,q+d≤m→(∀c,c<m→ch c=true→(c<q↔c<q+d))→hp (q+d)=hp q:=by
  intro d
  induction d with
  |zero=>intros;rfl
  |succ d ihd=>
   intro q hq hcc
   have h1:ch (q+d)=false:=by
    cases h:ch (q+d)with
    |false=>rfl
    |true=>have:=(hcc (q+d) (by omega) h).2 (by omega);omega
   rw[←Nat.add_assoc,hfr (q+d) (by omega) h1]
   refine ihd q (by omega) fun c hcm hct=>⟨fun h=>by omega,fun h=>(hcc c hcm hct).2 (by omega)⟩
 have hsame2:∀q i,q≤m→i≤m→(∀c,c<m→ch c=true→(c<q↔c<i))→hp q=hp i:=by
  intro q i hq hi hcc
  rcases Nat.le_total q i with h|h
  ·obtain⟨d,rfl⟩:=Nat.exists_eq_add_of_le h
   exact(hsame d q hi hcc).symm
  ·obtain⟨d,rfl⟩:=Nat.exists_eq_add_of_le h
   exact hsame d i hq fun c hcm hct=>(hcc c hcm hct).symm
 intro fuel listed s' H hsz hcnt h1 h2 hcl hno hq
 refine sP hc m hm htl s rs (fun L H=>∃q,q≤m∧H=hp q∧∀c,c<m→ch c=true→(L c=true↔c<q)) ?_ ?_ ?_ fuel listed s' H hsz hcnt h1 h2 hcl hno hq
 ·rintro L L' H hL ⟨q,hqm,rfl,hql⟩
  exact⟨q,hqm,rfl,fun c hcm hct=>by rw[←hL c hcm];exact hql c hcm hct⟩
 ·rintro L _ i o ⟨q,hqm,rfl,hql⟩ him hget hun' hcl hbi
  have breach:∀c o',ops[c]?=some o'→(∀j,bM o' j=true→L j=true)→∀i',dG ops 12 c i'=true→L i'=true:=fun c o' hoc hb i' hr=>ir hcl 12 c o' hoc hb i' hr
  cases hci:ch i with
  |false=>
   have hnr:∀c,c<q→ch c=true→dG ops 12 c i=false:=fun c hcq hct=>by
    cases hr:dG ops 12 c i with
    |false=>rfl
    |true=>
     exfalso
     have hgc:ops[c]?=some ops[c]:=by simp[show c<ops.size by omega]
     have hl:=(hql c (by omega) hct).2 hcq
     have:=breach c _ hgc (fun j hj=>hcl c _ j hgc hl hj) i hr
     rw[hun']at this
     cases this
   refine⟨_,hsf i _ him hget hci q hqm hnr,q,hqm,rfl,fun c hcm hct=>?_⟩
   show(if c=i then true else L c)=true↔c<q
   rw[if_neg (by intro e;rw[e,hci]at hct;cases hct)]
   exact hql c hcm hct
  |true=>
   have hbef:∀c,c<m→ch c=true→(L c=true↔c<i):=by
    intro c hcm hct
    refine⟨fun hl=>?_,fun hlt=>?_⟩
    ·rcases Nat.lt_trichotomy c i with h|h|h
     ·exact h
     ·subst h;rw[hun']at hl;cases hl
     ·exfalso
      have hgc:ops[c]?=some ops[c]:=by simp[show c<ops.size by omega]
      have:=breach c _ hgc (fun j hj=>hcl c _ j hgc hl hj) i (hch i c h hcm hci hct)
      rw[hun']at this
      cases this
    ·exact breach i _ hget hbi c (hch c i hlt him hct hci)
   have hqi:hp q=hp i:=hsame2 q i hqm (by omega) fun c hcm hct=>(hql c hcm hct).symm.trans (hbef c hcm hct)
   rw[hqi]
   refine⟨_,hst i _ him hget hci,i+1,by omega,rfl,fun c hcm hct=>?_⟩
   show(if c=i then true else L c)=true↔c<i+1
   by_cases e:c=i
   ·subst e;simp
   ·rw[if_neg e]
    refine(hbef c hcm hct).trans ⟨fun h=>by omega,fun h=>by omega⟩
 ·rintro L _ hall ⟨q,hqm,rfl,hql⟩
  rw[hsame2 q m hqm (Nat.le_refl _) fun c hcm hct=>⟨fun _=>hcm,fun _=>(hql c hcm hct).1 (hall c hcm)⟩]
  exact hQ
end
section
variable (P:Program) (hint:Nat→Bool) (n:Nat) (ops:Array Oper)
def fp(B:aa)(Q:bH):List Bool→List Oper→(Nat→AV)→aa→Prop
 |[],l,s,H=>bK P hint n ops Q l s H
 |_::_,[],s,H=>bK P hint n ops Q [] s H
 |true::bs,o::rest,s,H=>ek P hint n ops (fun _ _ _=>False) o (fun s' H'=>Ext B H'∧fp B Q bs rest s' H') s H
 |false::bs,o::rest,s,H=>ek P hint n ops (fun _ _ _=>False) o (fun s' H'=>H'=H∧fp B Q bs rest s' H') s H
end
section
variable {P:Program} {hint:Nat→Bool} {n:Nat} {ops:Array Oper} {Q:bH}
theorem kU{o:Oper}(hdt:mw hint o.op=true){s:Nat→AV}{H:aa}{K:(Nat→AV)→aa→Prop}(h:ek P hint n ops (fun _ _ _=>False) o K s H):∃r H',di P hint n ops H s o r H'∧K (cv n s o.dst r) H':=by
 unfold ek at h
 split at h
 ·rename_i hg
  obtain⟨r,H',hr,hdet⟩:=ij hdt h
  exact⟨r,H',by unfold di;simp only[hg];exact fun K KP hk=>hdet K KP hk,hr⟩
 ·rename_i j want hg
  split at h
  ·rename_i b hb
   split at h
   ·rename_i hbw
    obtain⟨r,H',hr,hdet⟩:=ij hdt h
    exact⟨r,H',by unfold di;simp only[hg];exact⟨b,hb,by rw[if_pos hbw];exact fun K KP hk=>hdet K KP hk⟩,hr⟩
   ·rename_i hbw
    exact⟨.bz [],H,by unfold di;simp only[hg];exact⟨b,hb,by simp[hbw]⟩,h⟩
  ·exact h.elim
theorem kV{B:aa}(hdt:∀(i:Nat) (o:Oper),ops[i]?=some o→mw hint o.op=true)(s0:Nat→AV):∀(bs:List Bool) (k:Nat) (rs0:Nat→AV) (hp0:Nat→aa),k+bs.length≤ops.size→fp P hint n ops B Q bs (ops.toList.drop k) (cd n ops s0 rs0 k) (hp0 k)→
  ∃(rs:Nat→AV) (hp:Nat→aa),(∀i,i<k→rs i=rs0 i)∧(∀i,i≤k→hp i=hp0 i)∧
   (∀i o,k≤i→i<k+bs.length→ops[i]?=some o→(bs[i-k]?=some true→di P hint n ops (hp i) (cd n ops s0 rs i) o (rs i) (hp (i+1))∧Ext B (hp (i+1)))∧
    (bs[i-k]?=some false→di P hint n ops (hp i) (cd n ops s0 rs i) o (rs i) (hp i)∧hp (i+1)=hp i))∧
   bK P hint n ops Q (ops.toList.drop (k+bs.length)) (cd n ops s0 rs (k+bs.length)) (hp (k+bs.length))
 |[],k,rs0,hp0,hk,h=>⟨rs0,hp0,fun _ _=>rfl,fun _ _=>rfl,fun i o h1 h2=>by simp at h2;omega,by
   have h:bK P hint n ops Q (ops.toList.drop k) (cd n ops s0 rs0 k) (hp0 k):=by
    cases hd:ops.toList.drop k<;>(rw[hd]at h;exact h)
   exact h⟩
 |b::bs,k,rs0,hp0,hk,h=>by
  simp only[List.length_cons]at hk
  have hlt:k<ops.size:=by omega
  have hget:ops[k]?=some ops[k]:=by simp[hlt]
  have hd:ops.toList.drop k=ops[k]::ops.toList.drop (k+1):=by
   rw[List.drop_eq_getElem_cons (by simpa using hlt)];simp
  rw[hd]at h
  have hdst:bV ops k=(ops[k]).dst:=by simp[bV,hget]
  have step:∃r H',di P hint n ops (hp0 k) (cd n ops s0 rs0 k) ops[k] r H'∧(b=true→Ext B H')∧(b=false→H'=hp0 k)∧fp P hint n ops B Q bs (ops.toList.drop (k+1)) (cv n (cd n ops s0 rs0 k) (ops[k]).dst r) H':=by
   cases b with
   |true=>
    obtain⟨r,H',h1,h2,h3⟩:=kU (hdt k _ hget) h
    exact⟨r,H',h1,fun _=>h2,fun e=>(by cases e),h3⟩
   |false=>
    obtain⟨r,H',h1,rfl,h3⟩:=kU (hdt k _ hget) h
    exact⟨r,_,h1,fun e=>(by cases e),fun _=>rfl,h3⟩
  obtain⟨r,H',h1,h2,h3,h4⟩:=step
  let rs1:Nat→AV:=fun i=>if i=k then r else rs0 i
  let hp1:Nat→aa:=fun i=>if i=k+1 then H' else hp0 i
  have e1:rs1 k=r:=if_pos rfl
  have e2:hp1 (k+1)=H':=if_pos rfl
  have hst:∀(rs:Nat→AV) i,i≤k→(∀j,j<i→rs j=rs0 j)→cd n ops s0 rs i=cd n ops s0 rs0 i:=by
   intro rs i
   induction i with
   |zero=>intros;rfl
   |succ i ih=>
    intro hi hr
    simp only[cd,ih (by omega) fun j hj=>hr j (by omega),hr i (by omega)]
  have h5:fp P hint n ops B Q bs (ops.toList.drop (k+1)) (cd n ops s0 rs1 (k+1)) (hp1 (k+1)):=by
   rw[e2]
   simp only[cd,e1,hdst]
   rw[hst rs1 k (Nat.le_refl _) fun j hj=>if_neg (by omega)]
   exact h4
  obtain⟨rs,hp,g1,g2,g3,g4⟩:=kV hdt s0 bs (k+1) rs1 hp1 (by omega) h5
  have f1:∀i,i<k→rs i=rs0 i:=fun i hi=>by rw[g1 i (by omega)];exact if_neg (by omega)
  have f2:∀i,i≤k→hp i=hp0 i:=fun i hi=>by rw[g2 i (by omega)];exact if_neg (by omega)
  have f3:rs k=r:=by rw[g1 k (by omega)];exact e1
  have f4:hp (k+1)=H':=by rw[g2 (k+1) (by omega)];exact e2
  refine⟨rs,hp,f1,f2,fun i o hi hi2 ho=>?_,by rw[List.length_cons,show k+(bs.length+1)=k+1+bs.length from by omega];exact g4⟩
  rcases Nat.lt_or_ge k i with hki|hki
  ·have:=g3 i o hki (by simp only[List.length_cons]at hi2;omega) ho
   rw[show i-k=(i-(k+1))+1 from by omega,List.getElem?_cons_succ]
   exact this
  ·obtain rfl:i=k:=by omega
   rw[hget]at ho
   cases ho
   rw[Nat.sub_self,List.getElem?_cons_zero,f2 i (Nat.le_refl _),f3,f4,hst rs i (Nat.le_refl _) fun j hj=>f1 j hj]
   refine⟨fun e=>?_,fun e=>?_⟩
   ·exact⟨h1,h2 (Option.some.inj e)⟩
   ·have:=h3 (Option.some.inj e)
    subst this
    exact⟨h1,rfl⟩
theorem uF{o:Oper}{s:Nat→AV}{H:aa}{K:AV→aa→Prop}{KP:Value→aa→Prop}(h1:∀x,o.op≠ .panic x)(h2:∀c,o.op≠ .call c):aN P hint s H o K KP=iQ P s H (match o.dst with|some d=>hint d|none=>false) o.op K:=by
 unfold aN
 split
 ·rename_i x hx;exact absurd hx (h1 x)
 ·rename_i c hx;exact absurd hx (h2 c)
 ·rfl
theorem qD{o:Oper}{s:Nat→AV}{B H H2:aa}{r:AV}{first:Bool}(hf:k9 hint first o=true)(hE:first=true→Ext H H2)(h:∀K KP,K r H→aN P hint s H o K KP):∀K KP,K r H2→aN P hint s H2 o K KP:=by
 intro K KP hk
 have h0:=h (fun r' _=>r'=r) (fun _ _=>False) rfl
 unfold k9 at hf
 rw[Bool.or_eq_true]at hf
 rcases hf with hf|hf
 ·have n1:∀x,o.op≠ .panic x:=fun x e=>by rw[e]at hf;cases hf
  have n2:∀c,o.op≠ .call c:=fun x e=>by rw[e]at hf;cases hf
  rw[uF n1 n2]at h0⊢
  rw[F8 (H:=H2) (H2:=H) hf]
  exact yY (fun r' _ e=>by rw[e];exact hk) h0
 ·rw[Bool.and_eq_true]at hf
  have n1:∀x,o.op≠ .panic x:=fun x e=>by rw[e]at hf;cases hf.2
  have n2:∀c,o.op≠ .call c:=fun x e=>by rw[e]at hf;cases hf.2
  rw[uF n1 n2]at h0⊢
  exact GB hf.2 (hE hf.1) h0 hk
theorem fK{o:Oper}{s:Nat→AV}{H H2:aa}{r:AV}{first:Bool}(hf:k9 hint first o=true)(hE:first=true→Ext H H2)(h:di P hint n ops H s o r H):di P hint n ops H2 s o r H2:=by
 unfold di at h⊢
 split at h
 ·rename_i hg
  try simp only[hg]
  exact qD (B:=H) hf hE h
 ·rename_i j want hg
  try simp only[]
  obtain⟨b,hb,h⟩:=h
  refine⟨b,hb,?_⟩
  split at h
  ·rw[if_pos (by assumption)];exact qD (B:=H) hf hE h
  ·rw[if_neg (by assumption)];simp[h.1]
end
def xO(hint:Nat→Bool)(ops:Array Oper)(bs:List Bool):Bool:=(List.range bs.length).all fun i=>match bs[i]?,ops[i]? with
 |some false,some o=>k9 hint ((bs.take i).all (!·)) o
 |some true,some _=>(List.range i).all fun c=>bs[c]?==some false||dG ops 12 i c
 |_,_=>false
section
variable {P:Program} {hint:Nat→Bool} {n:Nat} {ops:Array Oper} {Q:bH}
theorem D0(bs:List Bool){H0 H:aa}{id:Nat}{s:Nat→AV}(hm:P.follows .mixedOrders=true)(hc:fN hint ops=true)(ht:fH ops bs.length=true)(hx:xO hint ops bs=true)
  (h:fp P hint n ops H Q bs ops.toList s H):dQ P hint n H0 (.region id ops true) Q s H:=by
 obtain⟨hms,htl⟩:=gL ht
 refine⟨hm,?_⟩
 obtain⟨rs,hp,_,g2,g3,g4⟩:=kV (dF hc).Mb s bs 0 (fun _=> .top) (fun _=>H) (by omega) h
 have g20:hp 0=H:=g2 0 (Nat.le_refl _)
 simp only[Nat.zero_add,Nat.sub_zero,Nat.zero_le,true_implies]at g3 g4
 unfold xO at hx
 rw[List.all_eq_true]at hx
 have hget:∀i,i<bs.length→∃o,ops[i]?=some o:=fun i hi=>⟨ops[i]'(by omega),by simp[show i<ops.size by omega]⟩
 have hbs:∀i (hi:i<bs.length),bs[i]?=some bs[i]:=fun i hi=>List.getElem?_eq_getElem hi
 have hext:∀j,j≤bs.length→Ext H (hp j):=by
  intro j
  induction j with
  |zero=>intro _;rw[g20];exact Ext.refl H
  |succ j ihj=>
   intro hj
   obtain⟨o,ho⟩:=hget j (by omega)
   have g:=g3 j o (by omega) ho
   have hb:=hbs j (by omega)
   cases hbj:bs[j]'(by omega)with
   |true=>rw[hbj]at hb;exact(g.1 hb).2
   |false=>rw[hbj]at hb;rw[(g.2 hb).2];exact ihj (by omega)
 let ch:Nat→Bool:=fun i=>bs[i]?.getD false
 have chT:∀i,i<bs.length→ch i=true→bs[i]?=some true:=fun i hi h=>by
  have h:bs[i]?.getD false=true:=h
  rw[hbs i hi]at h⊢
  simpa using h
 have chF:∀i,i<bs.length→ch i=false→bs[i]?=some false:=fun i hi h=>by
  have h:bs[i]?.getD false=false:=h
  rw[hbs i hi]at h⊢
  simpa using h
 have hbase:∀i,i≤bs.length→(∀c,c<i→ch c=false)→hp i=H:=by
  intro i
  induction i with
  |zero=>intros;exact g20
  |succ i ihi=>
   intro hi hcf
   obtain⟨o,ho⟩:=hget i (by omega)
   rw[((g3 i o (by omega) ho).2 (chF i (by omega) (hcf i (by omega)))).2]
   exact ihi (by omega) fun c hc=>hcf c (by omega)
 refine nq (dF hc) bs.length hms htl s rs hp ch ?_ ?_ ?_ ?_ g4 ops.size (Array.replicate ops.size false) s H (by simp) ?_ ?_ ?_ ?_ ?_ ⟨0,Nat.zero_le _,g20.symm,fun c hcm hct=>?_⟩
 ·intro c c' h1 h2 h3 h4
  have:=hx c' (List.mem_range.2 h2)
  obtain⟨o,ho⟩:=hget c' h2
  rw[chT c' h2 h4,ho]at this
  simp only[List.all_eq_true]at this
  have:=this c (List.mem_range.2 h1)
  rw[chT c (by omega) h3]at this
  simpa using this
 ·intro i hi hci
  obtain⟨o,ho⟩:=hget i hi
  exact((g3 i o hi ho).2 (chF i hi hci)).2
 ·intro i o hi ho hci
  exact((g3 i o hi ho).1 (chT i hi hci)).1
 ·intro i o hi ho hci j hj _
  have hfl:=hx i (List.mem_range.2 hi)
  rw[chF i hi hci,ho]at hfl
  refine fK hfl (fun hfirst=>?_) ((g3 i o hi ho).2 (chF i hi hci)).1
  rw[hbase i (by omega) fun c hc=>?_]
  ·exact hext j hj
  ·rw[List.all_eq_true]at hfirst
   have:=hfirst (bs[c]'(by omega)) (by
    rw[List.mem_iff_getElem]
    exact⟨c,by simp;omega,by simp⟩)
   show bs[c]?.getD false=false
   rw[hbs c (by omega)]
   simpa using this
 ·exact Nat.le_trans List.countP_le_length (by simp)
 ·intro t j hj
  have hjl:=fW hj
  rw[if_neg (by simp[Array.getD,hjl])]
 ·intro t _;rfl
 ·intro j oj i hoj hl
  have hjl:=(Array.getElem?_eq_some_iff.1 hoj).1
  simp[Array.getD,hjl]at hl
 ·intro i hi hi2
  simp[Array.getD,hi2]
 ·have:c<ops.size:=by omega
  simp[Array.getD,this]
end
def uy(hint:Nat→Bool)(ops:Array Oper)(bs:List Bool)(c0:Nat):Bool:=bs[c0]?==some true&&(List.range bs.length).all fun i=>match bs[i]?,ops[i]? with
 |some false,some o=>k9 hint false o||(decide (i<c0)&&dG ops 12 c0 i)
 |some true,some _=>decide (c0≤i)&&(List.range i).all fun c=>bs[c]?==some false||dG ops 12 i c
 |_,_=>false
theorem Ext.nil(H:aa):Ext [] H=True:=eq_true fun id o h _=>by simp at h
section
variable {P:Program} {hint:Nat→Bool} {n:Nat} {ops:Array Oper} {Q:bH}
theorem kx(bs:List Bool)(c0:Nat){H0 H:aa}{id:Nat}{s:Nat→AV}(hm:P.follows .mixedOrders=true)(hc:fN hint ops=true)(ht:fH ops bs.length=true)(hx:uy hint ops bs c0=true)
  (h:fp P hint n ops [] Q bs ops.toList s H):dQ P hint n H0 (.region id ops true) Q s H:=by
 obtain⟨hms,htl⟩:=gL ht
 refine⟨hm,?_⟩
 obtain⟨rs,hp,_,g2,g3,g4⟩:=kV (dF hc).Mb s bs 0 (fun _=> .top) (fun _=>H) (by omega) h
 have g20:hp 0=H:=g2 0 (Nat.le_refl _)
 simp only[Nat.zero_add,Nat.sub_zero,Nat.zero_le,true_implies]at g3 g4
 unfold uy at hx
 rw[Bool.and_eq_true,List.all_eq_true]at hx
 obtain⟨hx0,hx⟩:=hx
 have hx0:bs[c0]?=some true:=by simpa using hx0
 have hget:∀i,i<bs.length→∃o,ops[i]?=some o:=fun i hi=>⟨ops[i]'(by omega),by simp[show i<ops.size by omega]⟩
 have hbs:∀i (hi:i<bs.length),bs[i]?=some bs[i]:=fun i hi=>List.getElem?_eq_getElem hi
 let ch:Nat→Bool:=fun i=>bs[i]?.getD false
 have chT:∀i,i<bs.length→ch i=true→bs[i]?=some true:=fun i hi h=>by
  have h:bs[i]?.getD false=true:=h
  rw[hbs i hi]at h⊢
  simpa using h
 have chF:∀i,i<bs.length→ch i=false→bs[i]?=some false:=fun i hi h=>by
  have h:bs[i]?.getD false=false:=h
  rw[hbs i hi]at h⊢
  simpa using h
 have hc0:ch c0=true:=by show bs[c0]?.getD false=true;rw[hx0];rfl
 have hfirst:∀i,i<bs.length→i<c0→ch i=false:=by
  intro i hi hlt
  cases hci:ch i with
  |false=>rfl
  |true=>
   exfalso
   obtain⟨o,ho⟩:=hget i hi
   have:=hx i (List.mem_range.2 hi)
   rw[chT i hi hci,ho]at this
   simp only[Bool.and_eq_true,decide_eq_true_eq]at this
   omega
 have hbase:∀i,i≤bs.length→i≤c0→hp i=H:=by
  intro i
  induction i with
  |zero=>intros;exact g20
  |succ i ihi=>
   intro hi hcf
   obtain⟨o,ho⟩:=hget i (by omega)
   rw[((g3 i o (by omega) ho).2 (chF i (by omega) (hfirst i (by omega) (by omega)))).2]
   exact ihi (by omega) (by omega)
 refine nq (dF hc) bs.length hms htl s rs hp ch ?_ ?_ ?_ ?_ g4 ops.size (Array.replicate ops.size false) s H (by simp) ?_ ?_ ?_ ?_ ?_ ⟨0,Nat.zero_le _,g20.symm,fun c hcm hct=>?_⟩
 ·intro c c' h1 h2 h3 h4
  have:=hx c' (List.mem_range.2 h2)
  obtain⟨o,ho⟩:=hget c' h2
  rw[chT c' h2 h4,ho]at this
  simp only[Bool.and_eq_true,List.all_eq_true]at this
  have:=this.2 c (List.mem_range.2 h1)
  rw[chT c (by omega) h3]at this
  simpa using this
 ·intro i hi hci
  obtain⟨o,ho⟩:=hget i hi
  exact((g3 i o hi ho).2 (chF i hi hci)).2
 ·intro i o hi ho hci
  exact((g3 i o hi ho).1 (chT i hi hci)).1
 ·intro i o hi ho hci j hj hnr
  have hfl:=hx i (List.mem_range.2 hi)
  rw[chF i hi hci,ho]at hfl
  simp only[Bool.or_eq_true,Bool.and_eq_true,decide_eq_true_eq]at hfl
  have hs:=((g3 i o hi ho).2 (chF i hi hci)).1
  rcases hfl with hfl|⟨hlt,hre⟩
  ·exact fK hfl (fun hf=>by cases hf) hs
  ·have hjc:j≤c0:=by
    rcases Nat.lt_or_ge c0 j with h1|h1
    ·have:=hnr c0 h1 hc0
     rw[hre]at this;cases this
    ·exact h1
   rw[hbase j hj hjc]
   rw[hbase i (by omega) (by omega)]at hs
   exact hs
 ·exact Nat.le_trans List.countP_le_length (by simp)
 ·intro t j hj
  have hjl:=fW hj
  rw[if_neg (by simp[Array.getD,hjl])]
 ·intro t _;rfl
 ·intro j oj i hoj hl
  have hjl:=(Array.getElem?_eq_some_iff.1 hoj).1
  simp[Array.getD,hjl]at hl
 ·intro i hi hi2
  simp[Array.getD,hi2]
 ·have:c<ops.size:=by omega
  simp[Array.getD,this]
end
section
variable (P:Program) (hint:Nat→Bool) (n:Nat) (ops:Array Oper) (Q:bH) (rest:List Oper) (s:Nat→AV) (H B:aa) (bs:List Bool)
def Ib(b:Bool)(d:Option Tmp)(H0:aa):AV→aa→Prop:=fun r H'=>(match b with|true=>Ext B H'|false=>H'=H0)∧fp P hint n ops B Q bs rest (cv n s d r) H'
theorem FY(d:Option Tmp)(H0:aa)(r:AV):Ib P hint n ops Q rest s B bs true d H0 r H=(Ext B H∧fp P hint n ops B Q bs rest (cv n s d r) H):=rfl
theorem Bg(d:Option Tmp)(H0:aa)(r:AV):Ib P hint n ops Q rest s B bs false d H0 r H=(H=H0∧fp P hint n ops B Q bs rest (cv n s d r) H):=rfl
theorem A8(l:List Oper):fp P hint n ops B Q [] l s H=bK P hint n ops Q l s H:=by cases l<;>rfl
theorem yu(b:Bool)(d:Option Tmp)(op:Op)(ty:TypeId)(p:String)(af:Array Edge):fp P hint n ops B Q (b::bs) (⟨d,op,ty,p,af,none⟩::rest) s H=aN P hint s H ⟨d,op,ty,p,af,none⟩ (Ib P hint n ops Q rest s B bs b d H) F3:=by
 cases b<;>simp only[fp,ek]<;>rfl
theorem FB(l:List Oper):fp P hint n ops B Q bs l.toArray.toList s H=fp P hint n ops B Q bs l s H:=rfl
end
@[congr] theorem Ov {P:Program} {hint:Nat→Bool} {n:Nat} {ops:Array Oper} {Q:bH} {bs:List Bool} {l:List Oper} {s:Nat→AV} {B H H':aa} (h:nf H=H'):fp P hint n ops B Q bs l s H=fp P hint n ops B Q bs l s H':=by rw[←h];rfl
@[congr] theorem MX {P:Program} {hint:Nat→Bool} {n:Nat} {ops:Array Oper} {Q:bH} {rest:List Oper} {s:Nat→AV} {bs:List Bool} {b:Bool} {d:Option Tmp} {B H0 H H':aa} {r r':AV} (g:nf r=r') (h:nf H=H'):Ib P hint n ops Q rest s B bs b d H0 r H=Ib P hint n ops Q rest s B bs b d H0 r' H':=by rw[←g,←h];rfl
attribute [go_sem] Ext.nil FY Bg A8 yu FB
theorem vF.mono{P:Program}{f:FuncId}{vals:Array Value}{w:World}{R R':Ending→World→Prop}(h:vF P f vals w R)(hR:∀e w',R e w'→R' e w'):vF P f vals w R':=by
 rcases h with⟨h1,h2⟩|⟨v,w',h1,h2⟩
 ·exact .inl ⟨h1,h2.mono hR⟩
 ·exact .inr ⟨v,w',h1,hR _ _ h2⟩
def AN(r:AV):Nat→AV:=fun t=>if t=0 then r else .top
theorem ag.Ko{P:Program}{f:FuncId}{args:List AV}{H H1 H2:aa}{r:AV}{s':Nat→AV}(h:ag P f args H (.ok r) H1)(hW:ay H (AN r) H1 s' H2):ag P f args H (.ok (s' 0)) H2:=by
 intro φ N w vals hR hA
 refine(h φ N w vals hR hA).mono ?_
 rintro e w' ⟨φ1,N1,hR1,hS1,hE⟩
 cases e with
 |returned v=>
  have hI:Inv H φ N w 1 ⟨true,[]⟩ (AN r) H1 φ1 N1 {tmps:=#[v],defers:=[]} w':=by
   refine⟨hR1,fun t=>?_,hS1,rfl,jn.refl⟩
   unfold AN
   by_cases ht:t=0
   ·subst ht;exact hE
   ·rw[if_neg ht];exact .top _
  obtain⟨φ2,N2,hI2⟩:=hW.ok hR hI
  exact⟨φ2,N2,hI2.rel,hI2.since,hI2.tmps 0⟩
 |panicked _=>exact hE.elim
 |outgrown=>exact hE.elim
theorem ag.drop{P:Program}{f:FuncId}{args:List AV}{H T:aa}{r:AV}(h:ag P f args H (.ok r) (H++T)):ag P f args H (.ok (sx (H++T) H.length r)) H:=h.Ko (ay.drop H T _)
theorem Jz(H:aa)(e:TypeId)(k v n:Nat)(es:List (List D))(h:es.length=n):sx (H++[.arr e k v es]) H.length (.sl H.length v 0 n)= .d (.list false es):=by
 rw[wx,rl,if_neg (Nat.lt_irrefl _),ni]
 simp only[if_true,List.drop_zero]
 rw[bQ _ _ h]
theorem ag.list{P:Program}{f:FuncId}{args:List AV}{H:aa}{e:TypeId}{k v n:Nat}{es:List (List D)}(h:ag P f args H (.ok (.sl H.length v 0 n)) (H++[.arr e k v es]))(hn:es.length=n):ag P f args H (.ok (.d (.list false es))) H:=by
 have:=h.drop
 rwa[Jz _ _ _ _ _ _ hn]at this
theorem aw.LH{rs:List Tmp}{H H' T:aa}{s:Nat→AV}{r:AV}(e:H'=H++T)(h:r=jY rs fun t=>sx H' H.length (s t)):aw rs H (.ok r) H .ret s H':=by subst e;exact aw.ret h
theorem ag.imp{P:Program}{f:FuncId}{args:List AV}{H H':aa}{r r':AV}(h:ag P f args H (.ok r) H')(hr:∀φ N w v,RA H' φ N w r v→RA H' φ N w r' v):ag P f args H (.ok r') H':=by
 have:=h.Ko (s':=AN r') (.imp _ _ _ fun φ N w u v hv=>?_)
 ·exact this
 ·unfold AN at hv⊢
  by_cases hu:u=0
  ·rw[if_pos hu]at hv⊢;exact hr _ _ _ _ hv
  ·rw[if_neg hu]at hv⊢;exact hv
theorem RA.Lf{H:aa}{φ:bI}{N:Addr→Prop}{w:World}{cs cs':List AV}{v:Value}(hs:nA cs cs')(h:RA H φ N w (.bz cs) v):RA H φ N w (.bz cs') v:=by
 cases h with
 |bz cs vs hl hh=>exact .bz _ vs (hs.len.symm.trans hl) fun i h1 h2=>hs.ra i (by rw[hs.len];exact h1) h1 (hh i (by rw[hs.len];exact h1) h2)
theorem ag.Ey{P:Program}{f:FuncId}{args:List AV}{H H':aa}{r r':AV}(h:ag P f args H (.ok r) H')(hs:Sub r r'):ag P f args H (.ok r') H':=h.imp fun _ _ _ _ hv=>hs.ra hv
theorem ag.bE{P:Program}{f:FuncId}{args:List AV}{H H':aa}{cs cs':List AV}(h:ag P f args H (.ok (.bz cs)) H')(hs:nA cs cs'):ag P f args H (.ok (.bz cs')) H':=h.imp fun _ _ _ _ hv=>hv.Lf hs
theorem RA.empty{H:aa}{φ:bI}{N:Addr→Prop}{w:World}{v:Value}(h:RA H φ N w (.d (.list false [])) v):RA H φ N w (.d (.v (.slice none 0 0))) v∨RA H φ N w (.d (.list true [])) v:=by
 cases h with
 |d h=>
  cases h with
  |nil A c hA=>
   cases A with
   |none=>rw[hA rfl];exact .inl (.d (.v _ rfl))
   |some ad=>exact .inr (.d (RD.list true [] ad c 0 (fun _ _=>undef) (Nat.zero_le _) (fun e he=>by simp at he) (fun i j hi=>by simp at hi) (fun i hi=>by simp at hi)))
  |list _ _ ad cap k c hc hk hh hd=>exact .inr (.d (RD.list true [] ad cap k c hc hk hh hd))
theorem ag.Gu{P:Program}{f:FuncId}{H H':aa}{res:lH}(pre post:List AV)(h1:ag P f (pre++ .d (.v (.slice none 0 0))::post) H res H')(h2:ag P f (pre++ .d (.list true [])::post) H res H'):ag P f (pre++ .d (.list false [])::post) H res H':=by
 intro φ N w vals hR hA
 have hlt:pre.length<vals.size:=by rw[←hA.1];simp
 have h0:=hA.2 pre.length (by simp) hlt
 simp only[List.getElem_append_right (Nat.le_refl _),Nat.sub_self,List.getElem_cons_zero]at h0
 have go:∀x,RA H φ N w x (vals[pre.length])→tF H φ N w (pre++x::post) vals:=fun x hx=>by
  refine⟨by rw[←hA.1];simp,fun i g1 g2=>?_⟩
  have h3:=hA.2 i (by simpa using g1) g2
  by_cases hi:i=pre.length
  ·subst hi
   simp only[List.getElem_append_right (Nat.le_refl _),Nat.sub_self,List.getElem_cons_zero]
   exact hx
  ·rcases Nat.lt_or_ge i pre.length with hlt2|hge
   ·rw[List.getElem_append_left hlt2]at h3⊢;exact h3
   ·rw[List.getElem_append_right hge]at h3⊢
    obtain⟨j,hj⟩:∃j,i-pre.length=j+1:=⟨i-pre.length-1,by omega⟩
    simp only[hj,List.getElem_cons_succ]at h3⊢
    exact h3
 rcases RA.empty h0 with h|h
 ·exact h1 φ N w vals hR (go _ h)
 ·exact h2 φ N w vals hR (go _ h)
theorem FP{P:Program}(d:Nat)(t e:TypeId)(h:P.underlying t=some (.slice e))(w:World):(Op.equalIn (d+1) t (.slice none 0 0) (.slice none 0 0)).run P w= .ok true w:=by simp[Op.equalIn,run_underlying h]
theorem Ci{P:Program}{t e:TypeId}(hu:P.underlying t=some (.slice e)):cy P .eql t (.slice none 0 0) (.slice none 0 0) (.bool true):=fun x y w=>by
 have hg:(eqGuard .eql t x y (.slice none 0 0) (.slice none 0 0)).run P w= .ok () w:=by simp[eqGuard]
 have he:(Op.equal t (.slice none 0 0) (.slice none 0 0)).run P w= .ok true w:=FP 9999 t e hu w
 rw[Sem.run_bind,hg]
 simp only[Result.andThen_ok,Go.binOp]
 simp[he]
theorem Eb{P:Program}{t e:TypeId}(hu:P.underlying t=some (.slice e))(K:Value→Prop):dE P .eql t (.slice none 0 0) (.slice none 0 0) K=K (.bool true):=by
 have h:=Ci hu
 have:dE P .eql t (.slice none 0 0) (.slice none 0 0) K=∃r,cy P .eql t (.slice none 0 0) (.slice none 0 0) r∧K r:=by unfold dE;rfl
 rw[this]
 exact propext ⟨fun⟨r',h',k⟩=>by rw[h.inj h'];exact k,fun k=>⟨_,h,k⟩⟩
def GK(I:(Nat→AV)→aa→Prop):bH:=fun e s H=>match e with| .normal=>I s H|_=>False
theorem zm(I:(Nat→AV)→aa→Prop)(s:Nat→AV)(H:aa):GK I .normal s H=I s H:=rfl
attribute [go_sem] zm
section
variable {P:Program} {hint:Nat→Bool} {n:Nat} {H0:aa} {Q:bH} {s:Nat→AV} {H:aa}
theorem n7{x y:Code}(I:(Nat→AV)→aa→Prop)(hh:fu hint y=false)(h1:dQ P hint n H0 x (GK I) s H)(h2:∀s H,I s H→dQ P hint n H0 y Q s H):dQ P hint n H0 x (lI P hint n H0 y Q) s H:=by
 refine kp x (fun e s H h=>?_) s H h1
 cases e with
 |normal=>rw[er,hh,jF];exact h2 s H h
 |_=>exact h.elim
theorem ER{x x' y:Code}{b:Bool}(I:(Nat→AV)→aa→Prop)(hh:fu hint y=false)(h1:oU (some b) (dQ P hint n H0 x (GK I) s H) (dQ P hint n H0 x' (GK I) s H))(h2:∀s H,I s H→dQ P hint n H0 y Q s H):
  oU (some b) (dQ P hint n H0 x (lI P hint n H0 y Q) s H) (dQ P hint n H0 x' (lI P hint n H0 y Q) s H):=by
 cases b
 ·exact n7 I hh h1 h2
 ·exact n7 I hh h1 h2
theorem n4{x y:Code}{b:Nat}(I:(Nat→AV)→aa→Prop)(hh:fu hint y=false)(h1:dQ P hint n H0 x (en b (GK I)) s H)(h2:∀s H,I s H→dQ P hint n H0 y Q s H):dQ P hint n H0 x (en b (lI P hint n H0 y Q)) s H:=by
 refine kp x (fun e s H h=>?_) s H h1
 cases e with
 |normal=>show lI P hint n H0 y Q .normal s H;rw[er,hh,jF];exact h2 s H h
 |exit i=>
  rw[jN]at h⊢
  by_cases hi:i=b
  ·rw[if_pos hi]at h⊢;rw[er,hh,jF];exact h2 s H h
  ·rw[if_neg hi]at h;exact h.elim
 |_=>exact h.elim
end
end Go.Proofs.YtmbagpfmfiegkaaGreatAw
namespace Go.Proofs.YtmbagpfmfiegkaaGreat
open Go.Proofs.YtmbagpfmfiegkaaGreatAw Go.RowKit
def us(l:List Nat):List (List D):=l.map fun(n:Nat)=>[.v (.int .u64 (n:Int))]
def aD(l:List Nat):List (List D):=l.map fun(n:Nat)=>[.v (.int .u8 (n:Int))]
theorem cT(l:List Nat):(us l).length=l.length:=by simp[us]
theorem ai(l:List Nat):(aD l).length=l.length:=by simp[aD]
theorem Gw:us []=[]:=rfl
theorem rk:aD []=[]:=rfl
theorem iO(l:List Nat)(k:Nat)(h:k<l.length):(us l)[k]?=some [.v (.int .u64 (l[k]:Int))]:=by simp[us,h]
theorem ow(l:List Nat)(k:Nat)(h:k<l.length):(aD l)[k]?=some [.v (.int .u8 (l[k]:Int))]:=by simp[aD,h]
theorem mD(l:List Nat)(n:Nat):us l++[[.v (.int .u64 (n:Int))]]=us (l++[n]):=by simp[us]
theorem jD(l:List Nat)(n:Nat):aD l++[[.v (.int .u8 (n:Int))]]=aD (l++[n]):=by simp[aD]
theorem dh(l m:List Nat):aD l++aD m=aD (l++m):=by simp[aD]
theorem C1(l:List Nat)(k n:Nat):(aD l).set k [.v (.int .u8 (n:Int))]=aD (l.set k n):=by simp[aD,List.map_set]
theorem aL(l:List Nat):(∀c∈aD l,c.length=1)=True:=eq_true fun c hc=>by obtain⟨x,_,rfl⟩:=List.mem_map.1 hc;rfl
def cw(l:List Nat):Nat:=fi (l.foldl (·|||·) 0)
theorem pT{l:List Nat}(h:∀n∈l,n<18446744073709551616):∀{a:Nat},a<18446744073709551616→l.foldl (·|||·) a<18446744073709551616:=by
 induction l with
 |nil=>exact fun h=>h
 |cons x l ih=>exact fun{a} ha=>ih (fun n hn=>h n (by simp[hn])) (Nat.or_lt_two_pow (n:=64) ha (h x (by simp)))
theorem nQ(l:List Nat)(nn:Bool)(H:aa)(hl:l.length≤9223372036854775807)(hu:∀n∈l,n<18446744073709551616):ag Tryz.prog 125 [.d (.list nn (us l))] H (.ok (iA (cw l))) H:=by
 refine ag.aj (hint:=(fun _=>false)) Tryz.func125 (by kernel_rfl) rfl [2] (by kernel_rfl) (by decide) (by simp[Tryz.ntmps125]) ?_
 rw[Tryz.ntmps125]
 simp -implicitDefEqProofs only[↓reduceIte,go_sem,Nat.reduceLT,reduceCtorEq,cT]
 refine bW (fun k s H'=>H'=H∧s 3=du ((l.take k).foldl (·|||·) 0)∧s 6= .d (.list nn (us l))∧s 7=iA l.length∧s 8=iA k) l.length hl (ay.refl _ _) ?_ ?_ ?_
 ·refine⟨rfl,?_⟩
  simp -implicitDefEqProofs only[↓reduceIte,go_sem,Nat.reduceLT,Nat.reduceEqDiff,List.take_zero,List.foldl_nil]
  rfl
 ·rintro k s H' hk hw ⟨rfl,t3,t6,t7,t8⟩
  have hx:=iO l k hk
  have e1:=List.take_succ_eq_append_getElem hk
  have hb:(l.take k).foldl (·|||·) 0<18446744073709551616:=pT (fun n hn=>hu n (List.mem_of_mem_take hn)) (by decide)
  have hc:=hu _ (List.getElem_mem hk)
  have e2:(l.take (k+1)).foldl (·|||·) 0=(l.take k).foldl (·|||·) 0|||l[k]:=by rw[e1,List.foldl_append];rfl
  generalize l[k]=x at hx hc e2
  generalize (l.take k).foldl (·|||·) 0=A at*
  have hor:=ov .u64 A x hb hc
  have hd:A|||x<18446744073709551616:=Nat.or_lt_two_pow (n:=64) hb hc
  simp -implicitDefEqProofs only[↓reduceIte,go_sem,Nat.reduceLT,Nat.reduceEqDiff,t3,t6,t7,t8,hk,hx,hor,aK _ hd]
  refine c9.same ⟨rfl,?_⟩
  simp -implicitDefEqProofs only[↓reduceIte,go_sem,Nat.reduceLT,Nat.reduceEqDiff,t6,t7,hw,e2]
 ·rintro s H' ⟨rfl,t3,t6,t7,t8⟩
  simp -implicitDefEqProofs only[↓reduceIte,go_sem,Nat.reduceLT,Nat.reduceEqDiff,t3,t7,t8]
  rw[List.take_length]
  refine ae.ok (sS _ (pT hu (by decide)) _) ?_
  simp -implicitDefEqProofs only[↓reduceIte,go_sem,Nat.reduceLT]
  refine aw.aI ?_
  simp -implicitDefEqProofs only[↓reduceIte,go_sem,Nat.reduceLT,cw]
def bp(n:Nat):List Nat:=if h:n<128 then[n]else(n%128+128)::bp (n/128)
termination_by n
theorem cY{n:Nat}(h:n<128):bp n=[n]:=by rw[bp];simp[h]
theorem kA{n:Nat}(h:¬n<128):bp n=(n%128+128)::bp (n/128):=by rw[bp];simp[h]
theorem LY:∀m,m<256→m|||128=m%128+128:=by decide+kernel
theorem IQ(n:Nat):IntKind.u8.wrap (JI .u8 ((n%256:Nat):Int) 128)=((n%128+128:Nat):Int):=by
 have:=ov .u8 (n%256) 128 (Nat.mod_lt _ (by decide)) (by decide)
 rw[show((128:Nat):Int)=128 from rfl]at this
 rw[this,LY _ (Nat.mod_lt _ (by decide))]
 rw[show n%256%128=n%128 from Nat.mod_mod_of_dvd n (by decide)]
 exact mP _ (by omega) (by omega)
theorem iH(n0:Nat)(hn:n0<18446744073709551616)(H:aa):ag Tryz.prog 49 [du n0] H (.ok (.sl H.length (bp n0).length 0 (bp n0).length)) (H++[.arr 5 1 (bp n0).length (aD (bp n0))]):=by
 have s7:∀n:Nat,j6 .u64 (n:Int) 7=((n/128:Nat):Int):=fun n=>yz n 7 (by decide)
 refine ag.aj (hint:=(fun _=>false)) Tryz.func49 (by kernel_rfl) rfl [2] (by kernel_rfl) (by decide) (by simp[Tryz.ntmps49]) ?_
 rw[Tryz.ntmps49]
 simp -implicitDefEqProofs only[go_sem]
 refine cl _ _ _ _ (fun(x:Nat×List Nat) s H'=>H'=H++[.arr 5 1 x.2.length (aD x.2)]∧x.1* 128^x.2.length≤n0∧(x.2.length=0∨0<x.1)∧bp n0=x.2++bp x.1∧s 0=du x.1∧s 3= .sl H.length x.2.length 0 x.2.length) (fun x=>x.1) (n0,[]) (ay.db _ _ 3 5 1 (by decide) (by simp -implicitDefEqProofs only[↓reduceIte,go_sem,Nat.reduceLT]) _) ?_ ?_
 ·refine⟨?_,by simp,.inl rfl,by simp,?_⟩
  ·simp -implicitDefEqProofs only[go_sem,rk,List.length_nil]
  ·simp -implicitDefEqProofs only[↓reduceIte,go_sem,reduceCtorEq,List.length_nil]
 ·rintro⟨n,bs⟩ s H' ⟨rfl,h1,h3,h2,t0,t3⟩
  simp only at h1 h2 h3 t0 t3
  have hb:bs.length<10:=by
   rcases Nat.lt_or_ge bs.length 10 with h|h
   ·exact h
   ·exfalso
    have h4:128^10≤128^bs.length:=Nat.pow_le_pow_right (by decide) h
    have h5:1* 128^bs.length≤n* 128^bs.length:=Nat.mul_le_mul_right _ (by omega)
    omega
  have hnn:n≤n0:=Nat.le_trans (Nat.le_mul_of_pos_right _ (Nat.pow_pos (by decide))) h1
  by_cases hlt:(128:Int)≤(n:Int)
  ·have hpb:=IQ n
   have hp2:=kA (n:=n) (by omega)
   generalize n%128+128=m at hpb hp2
   simp -implicitDefEqProofs only[↓reduceIte,go_sem,Nat.reduceLT,Nat.reduceLeDiff,Nat.reduceEqDiff,Int.reduceLE,reduceCtorEq,t0,t3,hlt,mN,hpb,ai,jD,s7]
   refine⟨by omega,by omega,_,_,(n/128,bs++[m]),.refl _ _,⟨?_,?_,.inr (by simp only;omega),?_,?_⟩,by simp only;omega⟩
   ·simp -implicitDefEqProofs only[go_sem,List.length_append]
   ·simp only[List.length_append,List.length_singleton,Nat.pow_succ]
    have:n/128* (128^bs.length* 128)=(n/128* 128)* 128^bs.length:=by rw[Nat.mul_comm (128^_),←Nat.mul_assoc]
    rw[this]
    exact Nat.le_trans (Nat.mul_le_mul_right _ (Nat.div_mul_le_self n 128)) h1
   ·rw[h2,hp2];simp
   ·simp -implicitDefEqProofs only[↓reduceIte,go_sem,Nat.reduceLT,Nat.reduceEqDiff,reduceCtorEq,List.length_append]
  ·have hm:n%256=n:=by omega
   simp -implicitDefEqProofs only[↓reduceIte,go_sem,Nat.reduceLT,Nat.reduceLeDiff,Nat.reduceEqDiff,reduceCtorEq,t0,t3,hlt,mN,ai,hm,jD]
   have:bp n0=bs++[n]:=by rw[h2,cY (by omega)]
   rw[this,List.length_append,List.length_singleton]
   exact⟨by omega,by omega,_,ay.refl _ _,by simp -implicitDefEqProofs only[↓reduceIte,go_sem,Nat.reduceLT]⟩
theorem oF(n0:Nat)(hn:n0<18446744073709551616)(H:aa):ag Tryz.prog 49 [du n0] H (.ok (.d (.list false (aD (bp n0))))) H:=(iH n0 hn H).list (ai _)
def byteOf:List Bool→Nat
 |[]=>0
 |b::r=>b.toNat+2* byteOf r
theorem jh:∀l:List Bool,byteOf l<2^l.length
 |[]=>by simp[byteOf]
 |b::r=>by
  have:=jh r
  simp only[byteOf,List.length_cons,Nat.pow_succ]
  cases b<;>simp<;>omega
theorem mg:∀(l:List Bool) (b:Bool),byteOf (l++[b])=byteOf l+b.toNat* 2^l.length
 |[],b=>by simp[byteOf]
 |c::r,b=>by
  simp only[List.cons_append,byteOf,mg r b,List.length_cons,Nat.pow_succ]
  rw[Nat.mul_add,←Nat.mul_assoc 2,Nat.mul_comm 2 b.toNat,Nat.mul_assoc b.toNat,Nat.mul_comm 2 (2^_)]
  omega
def eN(l:List Bool)(i:Nat):Nat:=byteOf ((l.drop (8* i)).take 8)
def bR(l:List Bool):List Nat:=(List.range ((l.length+7)/8)).map (eN l)
theorem cH(l:List Bool):(bR l).length=(l.length+7)/8:=by simp[bR]
def fA(l:List Bool):List Nat:=(List.range (l.length/8+1)).map (eN l)
theorem vu(l:List Bool):(fA l).length=l.length/8+1:=by simp[fA]
theorem nE{l:List Bool}(h:l.length%8=0):fA l=bR l++[0]:=by
 unfold fA bR
 rw[show(l.length+7)/8=l.length/8 by omega,List.range_succ,List.map_append]
 congr 1
 simp only[List.map_cons,List.map_nil,eN]
 rw[List.drop_of_length_le (by omega)]
 rfl
theorem rA{l:List Bool}(h:¬l.length%8=0):fA l=bR l:=by
 unfold fA bR
 rw[show(l.length+7)/8=l.length/8+1 by omega]
theorem mR(l:List Bool)(i:Nat):eN l i<256:=by
 have h1:=jh ((l.drop (8* i)).take 8)
 have h2:((l.drop (8* i)).take 8).length≤8:=by simp;omega
 have:2^((l.drop (8* i)).take 8).length≤2^8:=Nat.pow_le_pow_right (by decide) h2
 unfold eN;omega
theorem uv(l:List Bool):(fA l)[l.length/8]?=some (eN l (l.length/8)):=by simp[fA]
theorem qi(l:List Bool):eN l (l.length/8)=byteOf (l.drop (8* (l.length/8))):=by
 unfold eN
 rw[List.take_of_length_le (by simp;omega)]
theorem l7(l:List Bool):eN l (l.length/8)<2^(l.length%8):=by
 rw[qi]
 have:=jh (l.drop (8* (l.length/8)))
 rwa[List.length_drop,show l.length-8* (l.length/8)=l.length%8 by omega]at this
theorem si(l:List Bool)(b:Bool):bR (l++[b])=(fA l).set (l.length/8) (eN l (l.length/8)+b.toNat* 2^(l.length%8)):=by
 apply List.ext_getElem?
 intro i
 rw[List.getElem?_set]
 unfold bR fA
 simp only[List.getElem?_map,List.length_append,List.length_singleton,List.length_map,List.length_range]
 rw[show(l.length+1+7)/8=l.length/8+1 by omega]
 by_cases h:l.length/8=i
 ·subst h
  rw[if_pos rfl,if_pos (by omega),List.getElem?_range (by omega)]
  simp only[Option.map_some]
  congr 1
  rw[qi]
  unfold eN
  rw[List.drop_append_of_le_length (by omega),List.take_of_length_le (by simp;omega),mg,List.length_drop,show l.length-8* (l.length/8)=l.length%8 by omega]
 ·rw[if_neg h]
  by_cases hi:i<l.length/8+1
  ·rw[List.getElem?_range hi]
   simp only[Option.map_some]
   congr 1
   unfold eN
   rw[List.drop_append_of_le_length (by omega),List.take_append_of_le_length (by simp;omega)]
  ·rw[List.getElem?_eq_none (by simpa using hi)]
   rfl
def ca(n w:Nat):List Bool:=(List.range w).map fun i=>n.testBit i
theorem eo(n w:Nat):(ca n w).length=w:=by simp[ca]
theorem nC(n w:Nat):ca n (w+1)=ca n w++[n.testBit w]:=by simp[ca,List.range_succ]
def wH(G:aa)(l:List Bool):aa:=G++[.box 125 2 0 1 [.sl (G.length+1) (bR l).length 0 (bR l).length,iA l.length],.arr 5 1 (bR l).length (aD (bR l))]
theorem JO(n i:Nat)(hn:n<18446744073709551616)(hi:i≤64):IntKind.u8.wrap (IntKind.u64.wrap (xC .u64 (j6 .u64 (n:Int) (i:Int)) 1))=(((n.testBit i).toNat:Nat):Int):=by
 rw[yz n i hi]
 have h1:n/2^i<18446744073709551616:=Nat.lt_of_le_of_lt (Nat.div_le_self _ _) hn
 have:=om .u64 (n/2^i) 1 h1 (by decide)
 rw[show((1:Nat):Int)=1 from rfl]at this
 rw[this,Nat.and_one_is_mod,aK _ (by omega),mq _ (by omega),Nat.testBit_eq_decide_div_mod_eq]
 rcases Nat.mod_two_eq_zero_or_one (n/2^i)with h|h<;>rw[h]<;>rfl
theorem NX(b:Bool)(j:Nat)(hj:j<8):IntKind.u8.wrap (rS .u8 ((b.toNat:Nat):Int) (j:Int))=((b.toNat* 2^j:Nat):Int):=by
 have h1:min j 8=j:=by omega
 have h2:2^j≤2^7:=Nat.pow_le_pow_right (by decide) (by omega)
 have h3:rS .u8 ((b.toNat:Nat):Int) (j:Int)=((b.toNat* 2^j:Nat):Int):=by
  simp only[rS,IntKind.bits,Int.toNat_natCast,h1]
  norm_cast
 rw[h3]
 refine mq _ ?_
 cases b
 ·simp
 ·simp;omega
theorem OL(x:Nat)(b:Bool)(j:Nat)(hj:j<8)(hx:x<2^j):IntKind.u8.wrap (JI .u8 (x:Int) ((b.toNat* 2^j:Nat):Int))=((x+b.toNat* 2^j:Nat):Int):=by
 have h2:2^j≤2^7:=Nat.pow_le_pow_right (by decide) (by omega)
 have h3:b.toNat* 2^j≤2^j:=by cases b<;>simp
 rw[ov .u8 x (b.toNat* 2^j) (by simp[IntKind.bits];omega) (by simp[IntKind.bits];omega)]
 have h4:x|||b.toNat* 2^j=x+b.toNat* 2^j:=by
  rw[Nat.or_comm,Nat.mul_comm,←Nat.two_pow_add_eq_or_of_lt hx]
  omega
 rw[h4]
 exact mq _ (by omega)
theorem vE(n:Nat):Int.tmod (n:Int) 8=((n%8:Nat):Int):=by rw[Int.tmod_eq_emod_of_nonneg (by omega)];rfl
theorem Gf(n:Nat):Int.tdiv (n:Int) 8=((n/8:Nat):Int):=by rw[Int.tdiv_eq_ediv_of_nonneg (by omega)];rfl
theorem mO(n w:Nat)(hw:w≤64)(hn:n<2^w)(G:aa)(l0:List Bool)(hl:l0.length≤100000000):ag Tryz.prog 67 [.ptr G.length 0 0 0,du n,iA w] (wH G l0) (.ok (iA 0)) (wH G (l0++ca n w)):=by
 have hn64:n<18446744073709551616:=Nat.lt_of_lt_of_le hn (Nat.pow_le_pow_right (by decide) hw)
 have hlen:=(fO n w).2 hn
 generalize hE:wH G (l0++ca n w)=E
 refine ag.aj (hint:=(fun _=>false)) Tryz.func67 (by kernel_rfl) rfl [6] (by kernel_rfl) (by decide) (by simp[Tryz.ntmps67]) ?_
 rw[Tryz.ntmps67]
 simp -implicitDefEqProofs only[↓reduceIte,go_sem,Nat.reduceLT,Nat.reduceEqDiff,reduceCtorEq,wH,show((w:Int)<0)=False from eq_false (by omega),show((64:Int)<(w:Int))=False from eq_false (by omega)]
 refine ae.ok (sS n hn64 _) ?_
 simp -implicitDefEqProofs only[↓reduceIte,go_sem,Nat.reduceLT,Nat.reduceEqDiff,reduceCtorEq,show(((w:Nat):Int)<((fi n:Nat):Int))=False from eq_false (by omega)]
 refine bW (fun k s H'=>H'=wH G (l0++ca n k)∧s 0= .ptr G.length 0 0 0∧s 1=du n∧s 24=iA w∧s 25=iA k) w (by omega) (ay.refl _ _) ?_ ?_ ?_
 ·refine⟨by simp[ca,wH],?_⟩
  simp -implicitDefEqProofs only[↓reduceIte,go_sem,Nat.reduceLT,Nat.reduceEqDiff,reduceCtorEq]
 ·rintro k s H' hk hw2 ⟨rfl,t0,t1,t24,t25⟩
  have hs:=nC n k
  have hL:(l0++ca n k).length=l0.length+k:=by rw[List.length_append,eo]
  have hb:=JO n k hn64 (by omega)
  have hap:l0++ca n (k+1)=(l0++ca n k)++[n.testBit k]:=by rw[hs,List.append_assoc]
  rw[hap]
  generalize n.testBit k=c at hb
  generalize l0++ca n k=l at hL⊢
  have hsn:=si l c
  have hget:=uv l
  have hblt:=l7 l
  have hb8:=mR l (l.length/8)
  generalize eN l (l.length/8)=x at hsn hget hblt hb8
  have hRl:=vu l
  have hBl:=cH l
  have hBl2:=cH (l++[c])
  rw[List.length_append,List.length_singleton]at hBl2
  have hm8:l.length%8<8:=Nat.mod_lt _ (by decide)
  have e1:=NX c _ hm8
  have e2:=OL x c _ hm8 hblt
  have hRget:(aD (fA l))[l.length/8]?=some [.v (.int .u8 (x:Int))]:=by simp[aD,hget]
  have hRset:(aD (fA l)).set (l.length/8) [.v (.int .u8 ((x+c.toNat* 2^(l.length%8):Nat):Int))]=aD (bR (l++[c])):=by rw[C1,hsn]
  have hRB:(fA l).length=(bR (l++[c])).length:=by omega
  have hdlt:l.length/8<(fA l).length:=by omega
  have hfin:G++[.box 125 2 0 1 [.sl (G.length+1) (fA l).length 0 (fA l).length,iA ((l.length:Int)+1)],.arr 5 1 (fA l).length (aD (bR (l++[c])))]=wH G (l++[c]):=by
   unfold wH
   rw[hRB,List.length_append,List.length_singleton]
   rfl
  have hw3:IntKind.i64.wrap ((l.length:Int)+1)=(l.length:Int)+1:=wrap64_in _ (by omega) (by omega)
  have hwq:IntKind.i64.wrap ((l.length/8:Nat):Int)=((l.length/8:Nat):Int):=yJ _ (by omega)
  have hwk:IntKind.u64.wrap ((k:Nat):Int)=((k:Nat):Int):=aK _ (by omega)
  have hwm:IntKind.u64.wrap ((l.length%8:Nat):Int)=((l.length%8:Nat):Int):=aK _ (by omega)
  generalize c.toNat* 2^(l.length%8)=y at*
  generalize x+y=z at*
  by_cases h8:l.length%8=0
  ·have hR0:aD (bR l)++[[.v (.int .u8 0)]]=aD (fA l):=by rw[nE h8];exact jD _ 0
   have hR1:(bR l).length+1=(fA l).length:=by rw[nE h8];simp
   simp -implicitDefEqProofs only[↓reduceIte,go_sem,ah,au,Nat.reduceAdd,Nat.reduceLT,Nat.reduceLeDiff,Nat.reduceEqDiff,Int.reduceEq,reduceCtorEq,wH,t0,t24,t25,hk,vE,h8,ai,hR0,hR1]
   refine⟨by omega,by omega,?_⟩
   refine ig 25 K.mixed (by kernel_rfl) (by kernel_rfl) ?_
   simp -implicitDefEqProofs only[↓reduceIte,go_sem,ah,au,Nat.reduceAdd,Nat.reduceLT,Nat.reduceLeDiff,Nat.reduceEqDiff,Int.reduceEq,reduceCtorEq,t0,t1,t25,Gf,vE,hwq,hwk,hwm,hRget,hdlt,hb,e1,e2]
   refine c9.same ⟨?_,?_⟩
   ·simp -implicitDefEqProofs only[go_sem,hRset,hw3,hfin]
   ·simp -implicitDefEqProofs only[↓reduceIte,go_sem,Nat.reduceLT,Nat.reduceEqDiff,reduceCtorEq,t0,t1,t24,hw2]
  ·have h8':(((l.length%8:Nat):Int)=0)=False:=eq_false (by omega)
   rw[rA h8]at*
   simp -implicitDefEqProofs only[↓reduceIte,go_sem,ah,Nat.reduceAdd,Nat.reduceLT,Nat.reduceEqDiff,Int.reduceEq,reduceCtorEq,wH,t0,t24,t25,hk,vE,h8']
   refine ig 25 K.mixed (by kernel_rfl) (by kernel_rfl) ?_
   simp -implicitDefEqProofs only[↓reduceIte,go_sem,ah,au,Nat.reduceAdd,Nat.reduceLT,Nat.reduceLeDiff,Nat.reduceEqDiff,Int.reduceEq,reduceCtorEq,t0,t1,t25,Gf,vE,hwq,hwk,hwm,hRget,hdlt,hb,e1,e2]
   refine c9.same ⟨?_,?_⟩
   ·simp -implicitDefEqProofs only[go_sem,hRset,hw3,hfin]
   ·simp -implicitDefEqProofs only[↓reduceIte,go_sem,Nat.reduceLT,Nat.reduceEqDiff,reduceCtorEq,t0,t1,t24,hw2]
 ·rintro s H' ⟨rfl,t0,t1,t24,t25⟩
  simp -implicitDefEqProofs only[↓reduceIte,go_sem,Nat.reduceLT,t24,t25]
  rw[hE]
  exact⟨_,ay.refl _ _,by simp -implicitDefEqProofs only[↓reduceIte,go_sem,Nat.reduceLT]⟩
theorem qm(G:aa)(l:List Bool)(hl:l.length≤100000000):ag Tryz.prog 68 [.ptr G.length 0 0 0] (wH G l) (.ok (.d (.list false (aD (bR l))))) (wH G l):=by
 have:=cH l
 generalize hE:wH G l=E
 have hE2:=hE
 rw[wH]at hE2
 refine ag.aj (hint:=(fun _=>false)) Tryz.func68 (by kernel_rfl) rfl [2] (by kernel_rfl) (by decide) (by simp[Tryz.ntmps68]) ?_
 rw[Tryz.ntmps68]
 rw[←hE]
 simp -implicitDefEqProofs only[↓reduceIte,go_sem,ah,Nat.reduceAdd,Nat.reduceLT,Nat.reduceLeDiff,Nat.reduceEqDiff,reduceCtorEq,wH,show(aD (bR l)).take (bR l).length=aD (bR l)from bQ _ _ (ai _),aL,ai]
 refine⟨by omega,by omega,aw.LH (T:=[.arr 5 1 1 (aD (bR l))]) (by simp) ?_⟩
 simp -implicitDefEqProofs only[↓reduceIte,go_sem,Nat.reduceAdd,Nat.reduceLT,show(aD (bR l)).take (bR l).length=aD (bR l)from bQ _ _ (ai _)]
def dp(l:List Nat)(w:Nat):List Bool:=l.flatMap fun n=>ca n w
def cF(l:List Nat)(w:Nat):List Nat:=bR (dp l w)
theorem nx(l:List Nat)(n w:Nat):dp (l++[n]) w=dp l w++ca n w:=by simp[dp]
theorem dW(l:List Nat)(w:Nat):(dp l w).length=l.length* w:=by
 induction l with
 |nil=>simp[dp]
 |cons x l ih=>
  have:dp (x::l) w=ca x w++dp l w:=rfl
  rw[this,List.length_append,ih,eo,List.length_cons,Nat.add_mul];omega
theorem vt(l:List Nat)(w:Nat)(hw:w≤64)(hn:∀n∈l,n<2^w)(hl:l.length≤1000000)(nn:Bool)(H:aa):
  ag Tryz.prog 121 [.d (.list nn (us l)),iA w] H (.ok (.bz [.d (.list false (aD (cF l w))),iA 0])) H:=by
 have z0:wH H []=H++[.box 125 2 0 1 [.sl (H.length+1) 0 0 0,iA 0],.arr 5 1 0 []]:=rfl
 have h0:0<2^w:=Nat.two_pow_pos w
 have hbl:=dW l w
 have hbig:l.length* w≤1000000* 64:=Nat.mul_le_mul hl hw
 refine ag.aj (hint:=(fun t=>t==1000002||t==1000005||t==1000006)) Tryz.func121 (by kernel_rfl) rfl [4,5] (by kernel_rfl) (by decide) (by simp[Tryz.ntmps121]) ?_
 rw[Tryz.ntmps121]
 simp -implicitDefEqProofs only[↓reduceIte,go_sem,Nat.reduceAdd,Nat.reduceLT,Nat.reduceEqDiff,Nat.reduceBEq]
 refine⟨_,_,ay.mF _ _ H.length 125 2 0 1 [.d (.v (.slice none 0 0)),iA 0] 0 _ 5 1 (by decide) (by simp) rfl rfl,?_⟩
 simp -implicitDefEqProofs only[↓reduceIte,go_sem,Nat.reduceLT,Nat.reduceEqDiff]
 rw[←z0]
 refine ae.ok (mO 0 w hw h0 H [] (by simp)) ?_
 simp -implicitDefEqProofs only[↓reduceIte,go_sem,Nat.reduceAdd,Nat.reduceLT,Nat.reduceEqDiff,Nat.reduceBEq]
 refine⟨_,_,(by unfold wH;exact ay.drop H _ _),?_⟩
 simp -implicitDefEqProofs only[↓reduceIte,go_sem,Nat.reduceLT]
 refine⟨_,_,ay.mF _ _ H.length 125 2 0 1 [.d (.v (.slice none 0 0)),iA 0] 0 _ 5 1 (by decide) (by simp) rfl rfl,?_⟩
 simp -implicitDefEqProofs only[↓reduceIte,go_sem,reduceCtorEq,cT]
 rw[←z0]
 refine bW (fun k s H'=>H'=wH H (dp (l.take k) w)∧s 1=iA w∧s 6= .ptr H.length 0 0 0∧s 21= .d (.list nn (us l))∧s 22=iA l.length∧s 23=iA k) l.length (by omega) (ay.refl _ _) ?_ ?_ ?_
 ·refine⟨by simp[dp],?_⟩
  simp -implicitDefEqProofs only[↓reduceIte,go_sem,Nat.reduceLT,Nat.reduceEqDiff,reduceCtorEq]
 ·rintro k s H' hk hw2 ⟨rfl,t1,t6,t21,t22,t23⟩
  have hx:=iO l k hk
  have e1:=List.take_succ_eq_append_getElem hk
  have hc:=hn _ (List.getElem_mem hk)
  have e2:dp (l.take (k+1)) w=dp (l.take k) w++ca l[k] w:=by rw[e1,nx]
  have e3:=dW (l.take k) w
  have e4:(l.take k).length* w≤1000000* 64:=Nat.mul_le_mul (by simp;omega) hw
  generalize l[k]=x at hx hc e2
  simp -implicitDefEqProofs only[↓reduceIte,go_sem,Nat.reduceAdd,Nat.reduceLT,Nat.reduceEqDiff,Nat.reduceBEq,t1,t6,t21,t22,t23,hk,hx]
  refine ae.ok (mO x w hw hc H _ (by omega)) ?_
  simp -implicitDefEqProofs only[↓reduceIte,go_sem,Nat.reduceAdd,Nat.reduceLT,Nat.reduceEqDiff,Nat.reduceBEq,t23]
  refine c9.same ⟨by rw[e2],?_⟩
  simp -implicitDefEqProofs only[↓reduceIte,go_sem,Nat.reduceLT,Nat.reduceEqDiff,t1,t6,t21,t22,hw2]
 ·rintro s H' ⟨rfl,t1,t6,t21,t22,t23⟩
  rw[List.take_length]
  simp -implicitDefEqProofs only[↓reduceIte,go_sem,Nat.reduceAdd,Nat.reduceLT,Nat.reduceEqDiff,Nat.reduceBEq,t6,t22,t23]
  refine ae.ok (qm H (dp l w) (by omega)) ?_
  simp -implicitDefEqProofs only[↓reduceIte,go_sem,Nat.reduceLT]
  unfold wH
  refine aw.ret ?_
  simp -implicitDefEqProofs only[↓reduceIte,go_sem,Nat.reduceLT,Nat.reduceEqDiff,cF]
end Go.Proofs.YtmbagpfmfiegkaaGreat
namespace Go.Proofs.YtmbagpfmfiegkaaGreatAw
open Go.RowKit
def FV(v:Value):FrameMode:= .panicking [{v:=v,recovered:=false}]
def Jf(v:Value):FrameMode:= .panicking [{v:=v,recovered:=true}]
inductive Mode:FrameMode→Value→FrameMode→Prop
 |ret:Mode .returning .nilIface .returning
 |OC (v:Value):Mode (FV v) v (Jf v)
def oZ(P:Program)(f:FuncId)(args:List AV)(H:aa)(u:FrameMode)(H':aa)(u':FrameMode):Prop:=
 ∀φ N w vals,Rel H φ N w→tF H φ N w args vals→(callFunc f vals).run P w= .ok (.enter f vals) w∧
  CallsD P f vals u w fun e u1 w'=>(∃v,e= .returned v)∧u1=u'∧∃φ' N',Rel H' φ' N' w'∧aF H φ N w H' φ' N' w'
theorem tF.since{H H':aa}{φ φ':bI}{N N':Addr→Prop}{w w':World}{args:List AV}{vals:Array Value}(h:tF H φ N w args vals)(hR:Rel H φ N w)(hS:aF H φ N w H' φ' N' w'):tF H' φ' N' w' args vals:=
 ⟨h.1,fun i h1 h2=>(h.2 i h1 h2).since hR hS⟩
theorem oZ.aj{P:Program}{hint:Nat→Bool}{f:FuncId}{fn:Func}{id:Nat}{o0 o1:Oper}{rest:Code}{d0 d1:Tmp}(hf:P.funcs[f]?=some fn)(hn:(fn.name== "runtime.NumGoroutine")=false)(hb:fn.body=some (.seq (.region id #[o0,o1] false) rest))
  (h0:∃ats,o0.op= .call {callee:= .builtin .recover,args:=#[],argTypes:=ats}) (g0:o0.guard=none) (e0:o0.dst=some d0) (h1:o1.op= .assign (.tmp d0)) (g1:o1.guard=none) (e1:o1.dst=some d1) (hl:d0<fn.ntmps) (hr:fn.results=#[])
  {args:List AV} {H H':aa} {u u':FrameMode} {v:Value} (ha:args.length≤fn.ntmps) (hm:Mode u v u')
  (h:dQ P hint fn.ntmps H rest (fun e s H1=>(match e with| .normal| .ret=>True|_=>False)∧∃s',ay H s H1 s' H') (cv fn.ntmps (cv fn.ntmps (kC args) (some d0) (cD v)) (some d1) (cD v)) H) (hmk:hint 2000000=false:=by rfl):oZ P f args H u H' u':=by
 intro φ N w vals hR hA
 refine⟨je hf hn (by rw[hb];rfl) vals w,callsD_of_wpS hf hb fun c0 cs hc0=>wpS_seq (wpS_region ?_)⟩
 have hI:Inv H φ N w fn.ntmps ⟨false,[]⟩ (cv fn.ntmps (cv fn.ntmps (kC args) (some d0) (cD v)) (some d1) (cD v)) H φ N (({tmps:=vals++Array.replicate (fn.ntmps-vals.size) undef,defers:=[]}:Act).put (some d0) v|>.put (some d1) v) w:=by
  have h:Inv H φ N w fn.ntmps ⟨false,[]⟩ (kC args) H φ N {tmps:=vals++Array.replicate (fn.ntmps-vals.size) undef,defers:=[]} w:=
   ⟨hR,hA.init _,aF.refl,by simp;have:=hA.1;omega,jn.refl⟩
  exact(h.put hR aF.refl (fL v) (some d0)).put hR aF.refl (fL v) (some d1)
 have hrec:∃cs',(match recoverD (c0::cs)with|some (x,cs')=>(x,cs')|none=>(Value.nilIface,c0::cs))=(v,cs')∧cs'={c0 with mode:=u'}::cs:=by
  subst hc0
  generalize hu:c0.mode=u at hm
  cases hm with
  |ret=>exact⟨c0::cs,by simp[recoverD,hu],by rw[←hu]⟩
  |OC v=>exact⟨_,by simp[recoverD,hu,FV];rfl,rfl⟩
 obtain⟨cs',hrec,hcs⟩:=hrec
 have hwp:=Cv (fun e=>by rw[hmk]at e;cases e) hR rest _ hI h
 let R:Ending→FrameMode→World→Prop:=fun e u1 w'=>(∃v,e= .returned v)∧u1=u'∧∃φ' N',Rel H' φ' N' w'∧aF H φ N w H' φ' N' w'
 have hS:Code.wpS P rest (bodyPostS P fn c0 cs R) ((({tmps:=vals++Array.replicate (fn.ntmps-vals.size) undef,defers:=[]}:Act).put (some d0) v).put (some d1) v) cs' w:=by
  refine wpS_of_wp (wp_mono hwp ?_)
  rintro e a' w' ⟨ax,s',H1,φ1,N1,rfl,⟨hq,s'',hW⟩,hI1⟩
  obtain⟨φ2,N2,hI2⟩:=hW.ok hR hI1
  have fin:a'.defers=[]∧∃u1,cs'={c0 with mode:=u1}::cs∧∃v,(results fn a'.tmps).run P w'= .ok v w'∧R (.returned v) u1 w':=
   ⟨hI2.defers.eq,u',hcs,_,lM [] (by rw[hr];rfl) (by simp) _ _,⟨_,rfl⟩,rfl,φ2,N2,hI2.rel,hI2.since⟩
  cases ax with
  |normal=>exact fin
  |ret=>exact fin
  |exit i=>exact hq.elim
  |panic v=>exact hq.elim
 have tail:wpOpsS P #[o0,o1] (Exit.thenS (Code.wpS P rest (bodyPostS P fn c0 cs R)) (bodyPostS P fn c0 cs R)) [1]
   (({tmps:=vals++Array.replicate (fn.ntmps-vals.size) undef,defers:=[]}:Act).put (some d0) v) cs' w:=by
  have hev:(({tmps:=vals++Array.replicate (fn.ntmps-vals.size) undef,defers:=[]}:Act).put (some d0) v).eval (.tmp d0)=v:=by
   have:d0<vals.size+(fn.ntmps-vals.size):=Nat.lt_of_lt_of_le hl (by omega)
   simp[Act.eval,Act.put,this]
  have hx:(execOp (({tmps:=vals++Array.replicate (fn.ntmps-vals.size) undef,defers:=[]}:Act).put (some d0) v).eval o1).run P w= .ok (.value v) w:=by
   simp only[execOp,h1,hev];rfl
  have hw:Region.wanted o1 (yielded #[o0,o1] (({tmps:=vals++Array.replicate (fn.ntmps-vals.size) undef,defers:=[]}:Act).put (some d0) v).tmps)=true:=by simp[Region.wanted,g1]
  simp only[wpOpsS,List.getElem?_toArray,List.getElem?_cons_succ,List.getElem?_cons_zero,hw,if_true,hx,Oper.upon,e1]
  exact hS
 obtain⟨ats,h0⟩:=h0
 have hx:(execOp (({tmps:=vals++Array.replicate (fn.ntmps-vals.size) undef,defers:=[]}:Act)).eval o0).run P w= .ok .recover w:=by
  simp only[execOp,h0,resolve,invoke]
  rfl
 have hw:Region.wanted o0 (yielded #[o0,o1] (({tmps:=vals++Array.replicate (fn.ntmps-vals.size) undef,defers:=[]}:Act)).tmps)=true:=by simp[Region.wanted,g0]
 show wpOpsS P #[o0,o1] _ [0,1] _ _ _
 unfold wpOpsS
 simp only[List.getElem?_toArray,List.getElem?_cons_zero,hw,if_true,hx,e0]
 revert hrec
 cases recoverD (c0::cs)with
 |none=>
  intro hrec
  have e1:Value.nilIface=v:=congrArg Prod.fst hrec
  have e2:c0::cs=cs':=congrArg Prod.snd hrec
  simp only[e1,e2]
  exact tail
 |some p=>
  intro hrec
  have e1:p.1=v:=congrArg Prod.fst hrec
  have e2:p.2=cs':=congrArg Prod.snd hrec
  simp only[e1,e2]
  exact tail
def MI(P:Program)(rs:List ResultVar)(H0:aa)(res:lH)(H':aa)(g:FuncId)(dargs:List AV):bH:=fun e s H=>
 match e with
 | .normal| .ret=>∃H1,oZ P g dargs H .returning H1 .returning∧aZ P rs H0 res H' .ret s H1
 | .panic v=>∃H1,oZ P g dargs H (FV v) H1 (Jf v)∧aZ P rs H0 res H' .ret s H1
 |_=>False
theorem N9{P:Program}{fn:Func}{rs:List ResultVar}(hr:fn.results.toList=rs){H:aa}{φ:bI}{N:Addr→Prop}{w:World}(hR:Rel H φ N w){res:lH}{H':aa}{n:Nat}{ds:DS}{s':Nat→AV}{H1:aa}{φ1:bI}{N1:Addr→Prop}{a':Act}{w':World}
  (hI1:Inv H φ N w n ds s' H1 φ1 N1 a' w') (h:aZ P rs H res H' .ret s' H1):∃v,(results fn a'.tmps).run P w'= .ok v w'∧∃φ' N',Rel H' φ' N' w'∧aF H φ N w H' φ' N' w'∧vN H' φ' N' w' res (.returned v):=by
 obtain⟨avs,s'',hav,hW,rfl⟩:=h
 obtain⟨us,hus,hl,hru⟩:=pD hI1.rel hI1.tmps hav
 have hI2:Inv H φ N w us.length ⟨true,[]⟩ (fun t=>avs.getD t .top) H1 φ1 N1 {tmps:=us.toArray,defers:=[]} w':=by
  refine⟨hI1.rel,fun t=>?_,hI1.since,by simp,jn.refl⟩
  by_cases ht:t<avs.length
  ·have e1:avs.getD t .top=avs[t]:=by simp[List.getD,ht]
   have e2:(us.toArray:Array Value).getD t undef=us[t]'(by omega):=by
    rw[Array.getD_eq_getD_getElem?];simp[show t<us.length by omega]
   simp only[e1,e2]
   exact hru t ht (by omega)
  ·have e1:avs.getD t .top= .top:=by simp[List.getD,List.getElem?_eq_none (Nat.le_of_not_lt ht)]
   simp only[e1]
   exact .top _
 obtain⟨φ2,N2,hI3⟩:=hW.ok hR hI2
 refine⟨_,qG (by rw[hr];exact hus),φ2,N2,hI3.rel,hI3.since,?_⟩
 have at_:∀t,RA H' φ2 N2 w' (s'' t) ((us.toArray:Array Value).getD t undef):=hI3.tmps
 show RA H' φ2 N2 w' (jY (List.range avs.length) s'') _
 match us,hl with
 |[],hl=>
  have:avs=[]:=List.eq_nil_of_length_eq_zero hl
  subst this
  exact .bz _ _ rfl fun i h1=>by simp at h1
 |[u],hl=>
  have:avs.length=1:=hl
  rw[this]
  exact at_ 0
 |u::v::l,hl=>
  have e:jY (List.range avs.length) s''= .bz ((List.range avs.length).map s''):=vg _ (by simp[hl]) s''
  rw[e]
  refine .bz _ _ (by simp[hl]) fun i h1 h2=>?_
  have:=at_ i
  rw[Array.getD_eq_getD_getElem?]at this
  simp only[List.size_toArray]at h2
  rw[List.getElem?_toArray,List.getElem?_eq_getElem h2]at this
  simpa using this
theorem ag.oI{P:Program}{hint:Nat→Bool}{f:FuncId}{fn:Func}{pre rest:Code}{id:Nat}{o:Oper}{c:Call}{f0:Operand}(hf:P.funcs[f]?=some fn)(hn:(fn.name== "runtime.NumGoroutine")=false)(hb:fn.body=some (.seq pre (.seq (.region id #[o] false) rest)))
  (rs:List ResultVar) (hr:fn.results.toList=rs) (ho:o.op= .defer c) (hc:c.callee= .value f0) (hg:o.guard=none) (hd:o.dst=none)
  {args:List AV} {H:aa} {res:lH} {H':aa} (ha:args.length≤fn.ntmps)
  (h:dQ P hint fn.ntmps H pre (fun e s H1=>match e with
   | .normal=>ob (Nz (ao s f0)) fun g=>dQ P hint fn.ntmps H1 rest (MI P rs H res H' g.1 (c.args.toList.map (ao s)++g.2)) s H1
   |_=>False) (kC args) H) (hmk:hint 2000000=false:=by rfl):ag P f args H res H':=by
 intro φ N w vals hR hA
 refine .inl ⟨je hf hn (by rw[hb];rfl) vals w,calls_of_wp_defers hf hb ?_⟩
 have hI:Inv H φ N w fn.ntmps ⟨false,[]⟩ (kC args) H φ N {tmps:=vals++Array.replicate (fn.ntmps-vals.size) undef,defers:=[]} w:=
  ⟨hR,hA.init _,aF.refl,by simp;have:=hA.1;omega,jn.refl⟩
 refine wp_seq (wp_mono (Cv (fun e=>by rw[hmk]at e;cases e) hR pre _ hI h) ?_)
 rintro e a1 w1 ⟨ax,s1,H1,φ1,N1,rfl,hq,hI1⟩
 cases ax with
 |normal=>
  cases hfv:Nz (ao s1 f0)with
  |none=>simp only[hfv]at hq;exact hq.elim
  |some gc=>
  obtain⟨g,caps⟩:=gc
  simp only[hfv]at hq
  have hf0:ao s1 f0= .fn g caps:=by
   revert hfv
   cases ao s1 f0<;>intro h<;>cases h
   rfl
  have hfv':=aB hI1.tmps f0
  rw[hf0]at hfv'
  generalize hfe:a1.eval f0=fv at hfv'
  cases hfv' with
  |fn _ _ vs hl hh=>
  have hargs:tF H1 φ1 N1 w1 (c.args.toList.map (ao s1)++caps) (c.args.map a1.eval++vs):=by
   refine⟨by simp[hl],fun i h1 h2=>?_⟩
   by_cases hi:i<c.args.size
   ·rw[List.getElem_append_left (by simpa using hi),Array.getElem_append_left (by simpa using hi)]
    simp only[List.getElem_map,Array.getElem_map,Array.getElem_toList]
    exact aB hI1.tmps _
   ·rw[List.getElem_append_right (by simpa using hi),Array.getElem_append_right (by simpa using hi)]
    simp only[List.length_map,Array.length_toList,Array.size_map]
    exact hh _ (by simp at h1;omega) (by simp at h2;omega)
  let d:Deferred:={target:= .fn (.func g) vs,args:=c.args.map a1.eval}
  have hrun:(execOp a1.eval o).run P w1= .ok (.defer d) w1:=by
   simp[execOp,ho,resolve,hc,hfe,Deferred.ofValue,d]
  have hI1':Inv H1 φ1 N1 w1 fn.ntmps ⟨false,[d]⟩ s1 H1 φ1 N1 {a1 with defers:=[d]} w1:=⟨hI1.rel,hI1.tmps,aF.refl,hI1.size,jn.refl⟩
  refine wp_seq (wp_region ?_)
  have hwpR:=Cv (fun e=>by rw[hmk]at e;cases e) hI1.rel rest _ hI1' hq
  have hw:Region.wanted o (yielded #[o] a1.tmps)=true:=by simp[Region.wanted,hg]
  show wpOps P #[o] _ [0] a1 w1
  simp only[wpOps,List.getElem?_toArray,List.getElem?_cons_zero,hw,if_true]
  refine .inl ?_
  unfold Oper.wp
  rw[hrun,Oper.upon_defer,hd,hI1.defers.eq]
  show(Code.wp P rest _ {a1 with defers:=[d]} w1)
  refine wp_mono hwpR ?_
  rintro e a2 w2 ⟨ax,s2,H2,φ2,N2,rfl,hq2,hI2⟩
  have hargs2:=hargs.since hI1.rel hI2.since
  have run:∀u u' H3,u≠ .run→settle u'= .returning→oZ P g (c.args.toList.map (ao s1)++caps) H2 u H3 u'→aZ P rs H res H' .ret s2 H3→
    Leaves P fn a2.tmps (fun e w'=>∃φ' N',Rel H' φ' N' w'∧aF H φ N w H' φ' N' w'∧vN H' φ' N' w' res e) a2.defers u w2:=by
   intro u u' H3 hu hs hD hE
   obtain⟨hcall,hC⟩:=hD φ2 N2 w2 _ hI2.rel hargs2
   rw[hI2.defers.eq]
   refine leaves_cons hu (by simpa[invoke]using hcall) (CallsD.mono hC ?_)
   rintro e u1 w3 ⟨⟨v,rfl⟩,rfl,φ3,N3,hR3,hS3⟩
   simp only[hs]
   exact N9 hr hR (ds:=⟨false,[d]⟩) (a':=a2) (n:=fn.ntmps) ⟨hR3,fun t=>(hI2.tmps t).since hI2.rel hS3,hI1.since.trans (hI2.since.trans hS3),hI2.size,by rw[hI2.defers.eq];exact jn.refl⟩ hE
  cases ax with
  |normal=>
   obtain⟨H3,hD,hE⟩:=hq2
   exact run .returning .returning H3 (by simp) rfl hD hE
  |ret=>
   obtain⟨H3,hD,hE⟩:=hq2
   exact run .returning .returning H3 (by simp) rfl hD hE
  |exit i=>exact hq2.elim
  |panic v=>
   obtain⟨H3,hD,hE⟩:=hq2
   exact run (FV v) (Jf v) H3 (by simp[FV]) rfl hD hE
 |exit i=>exact hq.elim
 |ret=>exact hq.elim
 |panic v=>exact hq.elim
end Go.Proofs.YtmbagpfmfiegkaaGreatAw
namespace Go.Proofs.YtmbagpfmfiegkaaGreat
open Go.Proofs.YtmbagpfmfiegkaaGreatAw Go.RowKit
def cP:ByteArray:=⟨#[]⟩
theorem Ev(v:aq):lC v.kind v.i v.s 0 0 cP=decide (v=⟨0,0,cP⟩):=fm v ⟨0,0,cP⟩
theorem gl:cP.toList=[]:=by rw[ByteArray.toList_eq];rfl
theorem iJ(s:ByteArray):s.toList=[]↔s=cP:=⟨fun h=>toList_inj (by rw[h,gl]),fun h=>by rw[h];exact gl⟩
theorem H9(v:aq)(h0:v.kind=0):(v=⟨0,0,cP⟩)=(v.i=0∧v.s.toList=[]):=by
 cases v with|mk k i s=>
 simp only at h0
 subst h0
 simp[iJ]
def cA(v:aq):Bool:=if v.kind=2 then decide (iW v.i=dP (iW v.i))&&decide (v.s.toList=[])else if v.kind=1 then decide (v.s.toList=[])else if v.kind=3 then decide (v.i=0)&&decide (v.s.size≤1024)else if v.kind=0 then decide (v.i=0)&&decide (v.s.toList=[])else false
theorem kF(v:aq)(H:aa):ag Tryz.prog 60 [v.av] H (.ok (bA (cA v))) H:=by
 have e0:∀x:ByteArray,(x.toList==(⟨#[]⟩:ByteArray).toList)=decide (x.toList=[]):=fun x=>by
  rw[show(⟨#[]⟩:ByteArray).toList=[]from gl];rw[Bool.eq_iff_iff];simp
 refine ag.aj (hint:=(fun _=>false)) Tryz.func60 (by kernel_rfl) rfl [2] (by kernel_rfl) (by decide) (by simp[Tryz.ntmps60]) ?_
 rw[Tryz.ntmps60]
 by_cases h2:v.kind=2
 ·simp -implicitDefEqProofs only[↓reduceIte,go_sem,ah,Nat.reduceAdd,Nat.reduceLT,Nat.reduceLeDiff,Nat.reduceEqDiff,h2]
  refine aO K.mixed (by kernel_rfl) ?_
  simp -implicitDefEqProofs only[↓reduceIte,go_sem,ah,Nat.reduceAdd,Nat.reduceLT,Nat.reduceLeDiff,Nat.reduceEqDiff,jE]
  refine ae.ok (jT _ (im _) _) ?_
  simp -implicitDefEqProofs only[↓reduceIte,go_sem,Nat.reduceLT,Nat.reduceEqDiff,Int.natCast_inj]
  cases hc:decide (iW v.i=dP (iW v.i))with
  |true=>
   simp -implicitDefEqProofs only[↓reduceIte,go_sem,ah,Nat.reduceAdd,Nat.reduceLT,Nat.reduceEqDiff,e0]
   refine aw.ret ?_
   simp -implicitDefEqProofs only[↓reduceIte,go_sem,Nat.reduceLT,cA,h2,hc]
  |false=>
   simp -implicitDefEqProofs only[↓reduceIte,go_sem,Nat.reduceLT,Nat.reduceEqDiff,reduceCtorEq]
   refine aw.ret ?_
   simp -implicitDefEqProofs only[↓reduceIte,go_sem,Nat.reduceLT,cA,h2,hc]
 by_cases h1:v.kind=1
 ·simp -implicitDefEqProofs only[↓reduceIte,go_sem,ah,Nat.reduceAdd,Nat.reduceLT,Nat.reduceLeDiff,Nat.reduceEqDiff,Int.reduceEq,h1,e0]
  refine aw.ret ?_
  simp -implicitDefEqProofs only[↓reduceIte,go_sem,Nat.reduceLT,Int.reduceEq,cA,h1]
 by_cases h3:v.kind=3
 ·by_cases hi:v.i=0
  ·simp -implicitDefEqProofs only[↓reduceIte,go_sem,ah,Nat.reduceAdd,Nat.reduceLT,Nat.reduceLeDiff,Nat.reduceEqDiff,Int.reduceEq,h3,hi]
   refine aw.ret ?_
   simp -implicitDefEqProofs only[↓reduceIte,go_sem,Nat.reduceLT,Int.reduceEq,cA,h3,hi,show((v.s.size:Int)≤1024)=(v.s.size≤1024)from by simp;omega]
  ·simp -implicitDefEqProofs only[↓reduceIte,go_sem,ah,Nat.reduceAdd,Nat.reduceLT,Nat.reduceLeDiff,Nat.reduceEqDiff,Int.reduceEq,reduceCtorEq,h3,hi]
   refine aw.ret ?_
   simp -implicitDefEqProofs only[↓reduceIte,go_sem,Nat.reduceLT,Int.reduceEq,cA,h3,hi]
 by_cases h0:v.kind=0
 ·have e1:lC v.kind v.i v.s 0 0 ⟨#[]⟩=(decide (v.i=0)&&decide (v.s.toList=[])):=by
   rw[show lC v.kind v.i v.s 0 0 ⟨#[]⟩=decide (v=⟨0,0,cP⟩)from Ev v]
   simp only[H9 v h0,Bool.decide_and]
  simp -implicitDefEqProofs only[↓reduceIte,go_sem,ah,Nat.reduceAdd,Nat.reduceLT,Nat.reduceLeDiff,Nat.reduceEqDiff,h1,h2,h3,eq_true h0,e1]
  refine aw.ret ?_
  simp -implicitDefEqProofs only[↓reduceIte,go_sem,Nat.reduceLT,cA,h1,h2,h3,eq_true h0]
 simp -implicitDefEqProofs only[↓reduceIte,go_sem,ah,Nat.reduceAdd,Nat.reduceLT,Nat.reduceLeDiff,Nat.reduceEqDiff,reduceCtorEq,h0,h1,h2,h3]
 refine aw.ret ?_
 simp -implicitDefEqProofs only[↓reduceIte,go_sem,Nat.reduceLT,cA,h0,h1,h2,h3]
def qZ{α:Type}(p:α→Bool)(l:List α):Int:=if l.any p then(l.findIdx p:Nat)else -1
theorem xR{α:Type}{p:α→Bool}{l:List α}{k:Nat}(h:∀i (hi:i<k) (hl:i<l.length),p l[i]=false)(hk:k<l.length)(hp:p l[k]=true):qZ p l=k:=by
 unfold qZ
 rw[if_pos (List.any_eq_true.2 ⟨l[k],List.getElem_mem hk,hp⟩)]
 congr 1
 exact(List.findIdx_eq hk).2 ⟨hp,fun j hj=>h j hj (by omega)⟩
theorem any_none{α:Type}{p:α→Bool}{l:List α}(h:∀i (hi:i<l.length),p l[i]=false):l.any p=false:=by
 rw[List.any_eq_false]
 intro x hx
 obtain⟨i,hi,rfl⟩:=List.mem_iff_getElem.1 hx
 simp[h i hi]
theorem CT{α:Type}{p:α→Bool}{l:List α}{k:Nat}(hk:k<l.length)(h:p l[k]=true):l.any p=true:=List.any_eq_true.2 ⟨l[k],List.getElem_mem hk,h⟩
theorem uS{α:Type}{p:α→Bool}{l:List α}(h:∀i (hi:i<l.length),p l[i]=false):qZ p l=-1:=by
 unfold qZ
 rw[any_none h]
 rfl
theorem GP{α:Type}(p:α→Bool)(l:List α):(0≤qZ p l)=(l.any p=true):=by
 unfold qZ
 cases h:l.any p with
 |true=>simp
 |false=>simp
theorem qF(l:List aq)(p:aq→Bool)(g:FuncId)(caps:List AV)(n1:Bool)(H:aa)(hl:l.length≤9223372036854775807)(hf:∀v∈l,ag Tryz.prog g ([v.av]++caps) H (.ok (bA (p v))) H):
  ag Tryz.prog 103 [.d (.list n1 (l.map aq.enc)),.fn g caps] H (.ok (iA (qZ p l))) H:=by
 refine ag.aj (hint:=(fun _=>false)) Tryz.func103 (by kernel_rfl) rfl [4] (by kernel_rfl) (by decide) (by simp[Tryz.ntmps103]) ?_
 rw[Tryz.ntmps103]
 simp -implicitDefEqProofs only[↓reduceIte,go_sem,Nat.reduceLT,Int.reduceNeg,reduceCtorEq]
 refine bW (fun k s H'=>H'=H∧(∀i (hi:i<k) (hl:i<l.length),p l[i]=false)∧s 0= .d (.list n1 (l.map aq.enc))∧s 1= .fn g caps∧s 7=iA l.length∧s 8=iA k) l.length hl (ay.refl _ _) ?_ ?_ ?_
 ·refine⟨rfl,fun i hi=>by omega,?_⟩
  simp -implicitDefEqProofs only[↓reduceIte,go_sem,Nat.reduceLT,Nat.reduceEqDiff,reduceCtorEq]
 ·rintro k s H' hk hw ⟨rfl,hp,h0,h1,h7,h8⟩
  have hx:=List.getElem?_eq_getElem hk
  have hit:p l[k]=true→qZ p l=k:=fun h=>xR hp hk h
  have hpp:p l[k]=false→∀i (hi:i<k+1) (hl:i<l.length),p l[i]=false:=fun h0 i hi hl'=>by
   rcases Nat.lt_or_ge i k with h|h
   ·exact hp i h hl'
   ·obtain rfl:i=k:=by omega
    exact h0
  have hfk:=hf l[k] (List.getElem_mem hk)
  generalize l[k]=v at hx hit hpp hfk
  simp -implicitDefEqProofs only[↓reduceIte,go_sem,Nat.reduceAdd,Nat.reduceLT,Nat.reduceEqDiff,reduceCtorEq,h0,h1,h7,h8,hk,hx,aq.enc]
  refine ae.ok hfk ?_
  cases hv:p v with
  |true=>
   simp -implicitDefEqProofs only[↓reduceIte,go_sem,Nat.reduceLT,Nat.reduceEqDiff]
   refine aw.aI ?_
   simp -implicitDefEqProofs only[↓reduceIte,go_sem,Nat.reduceLT,hit hv]
  |false=>
   simp -implicitDefEqProofs only[↓reduceIte,go_sem,Nat.reduceLT,Nat.reduceEqDiff,h8]
   refine c9.same ⟨rfl,hpp hv,?_⟩
   simp -implicitDefEqProofs only[↓reduceIte,go_sem,Nat.reduceLT,Nat.reduceEqDiff,reduceCtorEq,h0,h1,h7,hw]
 ·rintro s H' ⟨rfl,hp,h0,h1,h7,h8⟩
  simp -implicitDefEqProofs only[↓reduceIte,go_sem,Nat.reduceLT,Int.reduceNeg,h7,h8]
  refine aw.aI ?_
  simp -implicitDefEqProofs only[↓reduceIte,go_sem,Nat.reduceLT,Int.reduceNeg,uS fun i hi=>hp i hi hi]
theorem lT(l:List aq)(p:aq→Bool)(g:FuncId)(caps:List AV)(n1:Bool)(H:aa)(hl:l.length≤9223372036854775807)(hf:∀v∈l,ag Tryz.prog g ([v.av]++caps) H (.ok (bA (p v))) H):
  ag Tryz.prog 62 [.d (.list n1 (l.map aq.enc)),.fn g caps] H (.ok (bA (l.any p))) H:=by
 refine ag.aj (hint:=(fun _=>false)) Tryz.func62 (by kernel_rfl) rfl [4] (by kernel_rfl) (by decide) (by simp[Tryz.ntmps62]) ?_
 rw[Tryz.ntmps62]
 simp -implicitDefEqProofs only[↓reduceIte,go_sem,Nat.reduceLT,Nat.reduceEqDiff,reduceCtorEq]
 refine ae.ok (qF l p g caps n1 H hl hf) ?_
 simp -implicitDefEqProofs only[↓reduceIte,go_sem,Nat.reduceLT,GP]
 refine aw.aI ?_
 simp -implicitDefEqProofs only[↓reduceIte,go_sem,Nat.reduceLT,Bool.decide_eq_true]
def bJ(k:Int):Bool:=decide (1≤k)&&decide (k≤3)
theorem gi(k:Int)(H:aa):ag Tryz.prog 61 [iA k] H (.ok (bA (bJ k))) H:=by
 refine ag.aj (hint:=(fun _=>false)) Tryz.func61 (by kernel_rfl) rfl [2] (by kernel_rfl) (by decide) (by simp[Tryz.ntmps61]) ?_
 rw[Tryz.ntmps61]
 by_cases h:1≤k
 ·simp -implicitDefEqProofs only[↓reduceIte,go_sem,Nat.reduceLT,Nat.reduceEqDiff,reduceCtorEq,h]
  refine aw.aI ?_
  simp -implicitDefEqProofs only[↓reduceIte,go_sem,Nat.reduceLT,bJ,h]
 ·simp -implicitDefEqProofs only[↓reduceIte,go_sem,Nat.reduceLT,Nat.reduceEqDiff,reduceCtorEq,h]
  refine aw.aI ?_
  simp -implicitDefEqProofs only[↓reduceIte,go_sem,Nat.reduceLT,bJ,h]
def aS(l:List aq)(k:Int):Int:=if !bJ k then 1 else if 4096<l.length then 2 else if l.any (fun v=> !decide (v.kind=k))then 7 else if l.any (fun v=> !cA v)then 1 else 0
theorem Ap(v:aq)(k:Int)(id:Nat)(H:aa)(hb:H[id]?=some (.box 3 1 0 1 [iA k])):ag Tryz.prog 58 [v.av,.ptr id 0 0 0] H (.ok (bA (!decide (v.kind=k)))) H:=by
 have hlt:id<H.length:=(List.getElem?_eq_some_iff.1 hb).1
 refine ag.aj (hint:=(fun _=>false)) Tryz.func58 (by kernel_rfl) rfl [3] (by kernel_rfl) (by decide) (by simp[Tryz.ntmps58]) ?_
 rw[Tryz.ntmps58]
 simp -implicitDefEqProofs only[↓reduceIte,go_sem,ah,Nat.reduceAdd,Nat.reduceLT,Nat.reduceLeDiff,Nat.reduceEqDiff,hb,List.getElem?_append_left hlt]
 refine aw.ret ?_
 simp -implicitDefEqProofs only[↓reduceIte,go_sem,Nat.reduceLT]
theorem zQ(v:aq)(H:aa):ag Tryz.prog 59 [v.av] H (.ok (bA (!cA v))) H:=by
 refine ag.aj (hint:=(fun _=>false)) Tryz.func59 (by kernel_rfl) rfl [2] (by kernel_rfl) (by decide) (by simp[Tryz.ntmps59]) ?_
 rw[Tryz.ntmps59]
 simp -implicitDefEqProofs only[↓reduceIte,go_sem,ah,Nat.reduceAdd,Nat.reduceLT,Nat.reduceEqDiff]
 refine ae.ok (kF v _) ?_
 simp -implicitDefEqProofs only[↓reduceIte,go_sem,Nat.reduceLT]
 refine aw.ret ?_
 simp -implicitDefEqProofs only[↓reduceIte,go_sem,Nat.reduceLT]
theorem fq(l:List aq)(k:Int)(nn:Bool)(H:aa)(hl:l.length≤9223372036854775807):ag Tryz.prog 29 [.d (.list nn (l.map aq.enc)),iA k] H (.ok (iA (aS l k))) H:=by
 refine ag.aj (hint:=(fun _=>false)) Tryz.func29 (by kernel_rfl) rfl [4] (by kernel_rfl) (by decide) (by simp[Tryz.ntmps29]) ?_
 rw[Tryz.ntmps29]
 simp -implicitDefEqProofs only[↓reduceIte,go_sem,ah,Nat.reduceLT,Nat.reduceEqDiff]
 refine ae.ok (gi k _) ?_
 cases h1:bJ k with
 |false=>
  simp -implicitDefEqProofs only[↓reduceIte,go_sem,Nat.reduceLT]
  refine aw.ret ?_
  simp -implicitDefEqProofs only[↓reduceIte,go_sem,Nat.reduceLT,aS,h1]
 |true=>
  by_cases h2:4096<l.length
  ·simp -implicitDefEqProofs only[↓reduceIte,go_sem,Nat.reduceLT,reduceCtorEq,show((4096:Int)<(l.length:Int))=True from eq_true (by omega)]
   refine aw.ret ?_
   simp -implicitDefEqProofs only[↓reduceIte,go_sem,Nat.reduceLT,aS,h1,h2,Bool.false_eq_true]
  ·simp -implicitDefEqProofs only[↓reduceIte,go_sem,Nat.reduceLT,Nat.reduceEqDiff,reduceCtorEq,show((4096:Int)<(l.length:Int))=False from eq_false (by omega)]
   refine ae.ok (lT l (fun v=> !decide (v.kind=k)) _ _ nn _ hl fun v _=>Ap v k _ _ (by simp)) ?_
   cases h3:l.any (fun v=> !decide (v.kind=k))with
   |true=>
    simp -implicitDefEqProofs only[↓reduceIte,go_sem,Nat.reduceLT]
    refine aw.ret ?_
    simp -implicitDefEqProofs only[↓reduceIte,go_sem,Nat.reduceLT,aS,h1,h2,h3,Bool.false_eq_true]
   |false=>
    simp -implicitDefEqProofs only[↓reduceIte,go_sem,Nat.reduceLT,Nat.reduceEqDiff,reduceCtorEq]
    refine ae.ok (lT l (fun v=> !cA v) _ _ nn _ hl fun v _=>zQ v _) ?_
    cases h4:l.any (fun v=> !cA v)with
    |true=>
     simp -implicitDefEqProofs only[↓reduceIte,go_sem,Nat.reduceLT]
     refine aw.ret ?_
     simp -implicitDefEqProofs only[↓reduceIte,go_sem,Nat.reduceLT,aS,h1,h2,h3,h4,Bool.false_eq_true]
    |false=>
     simp -implicitDefEqProofs only[↓reduceIte,go_sem,Nat.reduceLT]
     refine aw.ret ?_
     simp -implicitDefEqProofs only[↓reduceIte,go_sem,Nat.reduceLT,aS,h1,h2,h3,h4,Bool.false_eq_true]
def fj(n:Int):Nat:=if 0≤n then(2* n).toNat else(-2* n-1).toNat
theorem Dd(n:Int):IntKind.u64.wrap n=n%18446744073709551616:=by simp[IntKind.wrap,IntKind.signed,IntKind.bits]
theorem Ho(c:Nat)(h:c<18446744073709551616):c^^^18446744073709551615=18446744073709551615-c:=by
 have:=Nat.testBit_two_pow_sub_succ (x:=c) (n:=64) h
 apply Nat.eq_of_testBit_eq
 intro i
 rw[Nat.testBit_xor]
 have h2:=this i
 rw[show 2^64-(c+1)=18446744073709551615-c from by omega]at h2
 rw[h2]
 have h3:(18446744073709551615:Nat).testBit i=decide (i<64):=by
  have:=Nat.testBit_two_pow_sub_one 64 i
  simpa using this
 rw[h3]
 by_cases hi:i<64
 ·simp[hi]
 ·have h5:2^64≤2^i:=Nat.pow_le_pow_right (by omega) (by omega)
  have:c.testBit i=false:=Nat.testBit_lt_two_pow (by omega)
  simp[hi,this]
theorem KT(n:Int)(h1:-9223372036854775808≤n)(h2:n≤9223372036854775807):
  IntKind.u64.wrap (sF .u64 (IntKind.u64.wrap (rS .u64 (IntKind.u64.wrap n) 1)) (IntKind.u64.wrap (j6 .i64 n 63)))=((fj n:Nat):Int):=by
 have s1:rS .u64 (IntKind.u64.wrap n) 1=IntKind.u64.wrap n* 2:=by simp[rS,IntKind.bits]
 have s2:j6 .i64 n 63=n.fdiv 9223372036854775808:=by simp[j6,IntKind.bits]
 rw[s1,s2]
 by_cases h:0≤n
 ·have e1:IntKind.u64.wrap (IntKind.u64.wrap n* 2)=(((2* n).toNat:Nat):Int):=by rw[Dd,Dd];omega
  have e2:IntKind.u64.wrap (n.fdiv 9223372036854775808)=((0:Nat):Int):=by
   rw[show n.fdiv 9223372036854775808=0 from by rw[Int.fdiv_eq_ediv_of_nonneg _ (by decide)];omega];rfl
  rw[e1,e2]
  have e:=bits_xor_u64_nat (2* n).toNat 0 (by omega) (by omega)
  rw[Nat.xor_zero]at e
  unfold fj
  rw[if_pos h]
  exact e
 ·have e1:IntKind.u64.wrap (IntKind.u64.wrap n* 2)=(((2* n+18446744073709551616).toNat:Nat):Int):=by rw[Dd,Dd];omega
  have e2:IntKind.u64.wrap (n.fdiv 9223372036854775808)=((18446744073709551615:Nat):Int):=by
   rw[show n.fdiv 9223372036854775808=-1 from by rw[Int.fdiv_eq_ediv_of_nonneg _ (by decide)];omega];rfl
  rw[e1,e2]
  have e:=bits_xor_u64_nat (2* n+18446744073709551616).toNat 18446744073709551615 (by omega) (by omega)
  rw[Ho _ (by omega)]at e
  unfold fj
  rw[if_neg h,show(-2* n-1).toNat=18446744073709551615-(2* n+18446744073709551616).toNat from by omega]
  exact e
theorem ti(n:Int)(h1:-9223372036854775808≤n)(h2:n≤9223372036854775807)(H:aa):ag Tryz.prog 64 [iA n] H (.ok (du (fj n))) H:=by
 refine ag.aj (hint:=(fun _=>false)) Tryz.func64 (by kernel_rfl) rfl [2] (by kernel_rfl) (by decide) (by simp[Tryz.ntmps64]) ?_
 rw[Tryz.ntmps64]
 simp -implicitDefEqProofs only[↓reduceIte,go_sem,Nat.reduceLT,Nat.reduceEqDiff,Int.reduceLE,reduceCtorEq,KT n h1 h2]
 refine aw.aI ?_
 simp -implicitDefEqProofs only[↓reduceIte,go_sem,Nat.reduceLT]
abbrev eV(e:Int):Value:= .iface 31 (.int .i64 e)
def iU(b:List Nat):aT:= .box 78 1 0 1 [.d (.list false (aD b))]
theorem Bt(H:aa)(id:Nat)(ho:H[id]?=some (iU [])):ag Tryz.prog 69 [.ptr id 0 0 0] H (.panic (eV 3)) H:=by
 refine ag.aj (hint:=(fun _=>false)) Tryz.func69 (by kernel_rfl) rfl [2] (by kernel_rfl) (by decide) (by simp[Tryz.ntmps69]) ?_
 rw[Tryz.ntmps69]
 simp -implicitDefEqProofs only[↓reduceIte,go_sem,ah,Nat.reduceLT,reduceCtorEq,ho,iU,rk]
 exact⟨_,.refl _ _,rfl⟩
theorem Ea(H:aa)(id:Nat)(c:Nat)(b:List Nat)(hl:b.length<1000000000000000)(ho:H[id]?=some (iU (c::b))):ag Tryz.prog 69 [.ptr id 0 0 0] H (.ok (.d (.v (.int .u8 c)))) (H.set id (iU b)):=by
 refine ag.aj (hint:=(fun _=>false)) Tryz.func69 (by kernel_rfl) rfl [2] (by kernel_rfl) (by decide) (by simp[Tryz.ntmps69]) ?_
 rw[Tryz.ntmps69]
 have hne:((b.length:Int)+1=0)=False:=eq_false (by omega)
 have hid:id<H.length:=(List.getElem?_eq_some_iff.1 ho).1
 have hget:(aD (c::b))[0]?=some [.v (.int .u8 c)]:=rfl
 simp -implicitDefEqProofs only[↓reduceIte,go_sem,ah,Nat.reduceLT,Int.reduceLE,reduceCtorEq,ho,iU,ai,hne,hget,Int.toNat_zero,Nat.zero_mul]
 refine ig 14 K.mixed (by kernel_rfl) (by kernel_rfl) ?_
 simp -implicitDefEqProofs only[↓reduceIte,go_sem,ah,au,Nat.reduceLT,Nat.reduceEqDiff,Int.reduceLE,Int.reduceToNat,reduceCtorEq,ho,iU,ai,aL]
 have hd:List.drop 1 (List.take (b.length+1:Int).toNat (aD (c::b)))=aD b:=by
  rw[List.take_of_length_le (by rw[ai,List.length_cons];omega)];rfl
 rw[hd]
 refine⟨by omega,by omega,by omega,_,ay.refl _ _,?_⟩
 simp -implicitDefEqProofs only[↓reduceIte,go_sem,Nat.reduceLT]
def dV:Nat→Nat→List Nat→Except Int Nat×List Nat
 |0,_,b=>(.error 4,b)
 |_+1,_,[]=>(.error 3,[])
 |k+1,acc,c::b=>
  if(k=0∧1<c)∨(k<9∧c=0)then(.error 4,b)
  else if c<128 then(.ok (acc+c%128* 128^(9-k)),b)
  else dV k (acc+c%128* 128^(9-k)) b
theorem EV:∀m:Nat,m<256→IntKind.u64.wrap (IntKind.u8.wrap (n6 .u8 (m:Int) 128))=((m%128:Nat):Int):=by decide+kernel
theorem J7(m j:Nat)(hj:j≤63)(hm:m* 2^j<18446744073709551616):IntKind.u64.wrap (rS .u64 (m:Int) (j:Int))=((m* 2^j:Nat):Int):=by
 have h1:min j 64=j:=by omega
 have h3:rS .u64 (m:Int) (j:Int)=((m* 2^j:Nat):Int):=by
  simp only[rS,IntKind.bits,Int.toNat_natCast,h1]
  push_cast
  rfl
 rw[h3]
 exact aK _ hm
theorem OD(a m j:Nat)(ha:a<2^j)(hm:a+m* 2^j<18446744073709551616):IntKind.u64.wrap (JI .u64 (a:Int) ((m* 2^j:Nat):Int))=((a+m* 2^j:Nat):Int):=by
 rw[ov .u64 a (m* 2^j) (by simp only[IntKind.bits];omega) (by simp only[IntKind.bits];omega)]
 have h4:a|||m* 2^j=a+m* 2^j:=by
  rw[Nat.or_comm,Nat.mul_comm,←Nat.two_pow_add_eq_or_of_lt ha]
  omega
 rw[h4]
 exact aK _ hm
theorem GA(i:Nat):128^i=2^(7* i):=by rw[Nat.pow_mul]
theorem qp(H:aa)(id:Nat)(b:List Nat)(hl:b.length<1000000000000000)(hb:∀c∈b,c<256)(ho:H[id]?=some (iU b)):
  ag Tryz.prog 37 [.ptr id 0 0 0] H (match(dV 10 0 b).1 with| .ok n=> .ok (uA n)| .error e=> .panic (eV e)) (H.set id (iU (dV 10 0 b).2)):=by
 have hid:id<H.length:=(List.getElem?_eq_some_iff.1 ho).1
 have hself:H=H.set id (iU b):=by
  apply List.ext_getElem?
  intro j
  by_cases hj:j=id
  ·subst hj;rw[ho,List.getElem?_set_self hid]
  ·rw[List.getElem?_set_ne (Ne.symm hj)]
 refine ag.aj (hint:=(fun _=>false)) Tryz.func37 (by kernel_rfl) rfl [2] (by kernel_rfl) (by decide) (by simp[Tryz.ntmps37]) ?_
 rw[Tryz.ntmps37]
 simp -implicitDefEqProofs only[go_sem]
 refine cl _ _ _ _ (fun(x:Nat×Nat×List Nat) s H'=>x.1≤10∧x.2.1<128^(10-x.1)∧x.2.2.length<1000000000000000∧(∀c∈x.2.2,c<256)∧H'=H.set id (iU x.2.2)∧dV 10 0 b=dV x.1 x.2.1 x.2.2∧s 0= .ptr id 0 0 0∧s 3=uA x.2.1∧s 4=iA ((10-x.1:Nat):Int)) (fun x=>x.1) (10,0,b) (ay.refl _ _) ?_ ?_
 ·refine⟨Nat.le_refl _,Nat.zero_lt_one,hl,hb,hself,rfl,?_⟩
  simp -implicitDefEqProofs only[↓reduceIte,go_sem,Nat.reduceSub,Nat.reduceLT,Nat.reduceEqDiff,reduceCtorEq]
 ·rintro⟨k,acc,r⟩ s H' ⟨h1,h2,h3,h4,rfl,h5,t0,t3,t4⟩
  simp only at h1 h2 h3 h4 h5 t0 t3 t4
  rw[h5]
  have hget:(H.set id (iU r))[id]?=some (iU r):=List.getElem?_set_self hid
  cases k with
  |zero=>
   simp -implicitDefEqProofs only[↓reduceIte,go_sem,Nat.reduceSub,Nat.reduceLT,t4]
   exact⟨_,.refl _ _,rfl⟩
  |succ k=>
   obtain⟨i,hi⟩:∃i,i=9-k:=⟨_,rfl⟩
   have hi2:10-(k+1)=i:=by omega
   rw[hi2]at t4 h2
   have hne:((i:Int)=10)=False:=eq_false (by omega)
   simp -implicitDefEqProofs only[↓reduceIte,go_sem,Nat.reduceLT,reduceCtorEq,t0,t4,hne]
   cases r with
   |nil=>
    refine ae.panic (Bt _ id hget) ?_
    simp -implicitDefEqProofs only[go_sem]
    exact⟨_,.refl _ _,rfl⟩
   |cons c r=>
    refine ae.ok (Ea _ id c r (by simp at h3;omega) hget) ?_
    have hc:c<256:=h4 c (by simp)
    by_cases hbad:(k=0∧1<c)∨(k<9∧c=0)
    ·rw[show dV (k+1) acc (c::r)=(.error 4,r) by simp[dV,hbad]]
     have fin:∀s,aw [2] H (lH.panic (eV 4)) (List.set H id (iU r)) (AX.panic (Value.iface 31 (Value.int IntKind.i64 4))) s (List.set H id (iU r)):=fun s=>⟨_,.refl _ _,rfl⟩
     by_cases h9:k=0
     ·have e1:((i:Int)=9)=True:=eq_true (by omega)
      by_cases hc1:1<c
      ·have e2:(1<(c:Int))=True:=eq_true (by omega)
       simp -implicitDefEqProofs only[↓reduceIte,go_sem,Nat.reduceLT,Nat.reduceEqDiff,List.set_set,t4,e1,e2]
       exact fin _
      ·have e2:(1<(c:Int))=False:=eq_false (by omega)
       have e3:(0<(i:Int))=True:=eq_true (by omega)
       have e4:((c:Int)=0)=True:=eq_true (by omega)
       simp -implicitDefEqProofs only[↓reduceIte,go_sem,Nat.reduceLT,Nat.reduceEqDiff,reduceCtorEq,List.set_set,t4,e1,e2,e3,e4]
       exact fin _
     ·have e1:((i:Int)=9)=False:=eq_false (by omega)
      have e3:(0<(i:Int))=True:=eq_true (by omega)
      have e4:((c:Int)=0)=True:=eq_true (by omega)
      simp -implicitDefEqProofs only[↓reduceIte,go_sem,Nat.reduceLT,Nat.reduceEqDiff,reduceCtorEq,List.set_set,t4,e1,e3,e4]
      exact fin _
    ·have hstep:dV (k+1) acc (c::r)=if c<128 then(.ok (acc+c%128* 128^i),r)else dV k (acc+c%128* 128^i) r:=by
      rw[hi];simp only[dV,if_neg hbad]
     rw[hstep]
     have hpart:=EV c hc
     obtain⟨j,hj⟩:∃j,j=7* i:=⟨_,rfl⟩
     have hp2:=GA i
     rw[←hj]at hp2
     have hm:c%128* 2^j+2^j≤18446744073709551616:=by
      by_cases h9:k=0
      ·have:j=63:=by omega
       subst this
       have:c≤1:=by omega
       have:c%128≤1:=by omega
       omega
      ·have h56:2^j≤2^56:=Nat.pow_le_pow_right (by decide) (by omega)
       have:c%128<128:=Nat.mod_lt _ (by decide)
       have:c%128* 2^j≤127* 2^j:=Nat.mul_le_mul_right _ (by omega)
       omega
     rw[hp2]at h2
     rw[hp2]
     have e5:IntKind.i64.wrap (7* (i:Int))=(j:Int):=by rw[wrap64_in _ (by omega) (by omega)];omega
     have e6:IntKind.u64.wrap (j:Int)=(j:Int):=aK _ (by omega)
     have e7:=J7 (c%128) j (by omega) (by omega)
     have e8:=OD acc (c%128) j h2 (by omega)
     have hA:acc+c%128* 2^j<2^j* 128:=by
      have:c%128<128:=Nat.mod_lt _ (by decide)
      have:c%128* 2^j≤127* 2^j:=Nat.mul_le_mul_right _ (by omega)
      omega
     generalize c%128=m at*
     generalize m* 2^j=P at*
     generalize acc+P=A at*
     have hw2:IntKind.i64.wrap ((i:Int)+1)=((10-k:Nat):Int):=by rw[wrap64_in _ (by omega) (by omega)];omega
     have fin:∀s,s 2=uA A→aw [2] H (lH.ok (uA A)) (List.set H id (iU r)) AX.ret s (List.set H id (iU r)):=fun s hs=>⟨_,.refl _ _,by simp only[jY,hs]⟩
     have nxt:∀s,s 0= .ptr id 0 0 0→s 3=uA A→s 4=iA ((10-k:Nat):Int)→∃s'' H'',∃y:Nat×Nat×List Nat,ay H s (List.set H id (iU r)) s'' H''∧(y.1≤10∧y.2.1<128^(10-y.1)∧y.2.2.length<1000000000000000∧(∀c∈y.2.2,c<256)∧H''=H.set id (iU y.2.2)∧dV k A r=dV y.1 y.2.1 y.2.2∧s'' 0= .ptr id 0 0 0∧s'' 3=uA y.2.1∧s'' 4=iA ((10-y.1:Nat):Int))∧y.1<k+1:=by
      intro s g0 g3 g4
      refine⟨s,_,(k,A,r),.refl _ _,⟨by simp only;omega,?_,by simp at h3;simp only;omega,fun c hc=>h4 c (by simp[hc]),rfl,rfl,g0,g3,g4⟩,Nat.lt_succ_self _⟩
      show A<128^(10-k)
      rw[show 10-k=i+1 by omega,Nat.pow_succ,GA,←hj]
      exact hA
     by_cases hlt:c<128
     ·rw[if_pos hlt]
      have hlt':((c:Int)<128)=True:=eq_true (by omega)
      by_cases h9:k=0
      ·have e1:((i:Int)=9)=True:=eq_true (by omega)
       have e2:(1<(c:Int))=False:=eq_false (by omega)
       have e3:(0<(i:Int))=True:=eq_true (by omega)
       have e4:((c:Int)=0)=False:=eq_false (by omega)
       simp -implicitDefEqProofs only[↓reduceIte,go_sem,Nat.reduceLT,Nat.reduceEqDiff,reduceCtorEq,List.set_set,t3,t4,e1,e2,e3,e4,hpart,e5,e6,e7,e8,hlt']
       exact fin _ (by simp -implicitDefEqProofs only[↓reduceIte,go_sem,Nat.reduceLT])
      ·have e1:((i:Int)=9)=False:=eq_false (by omega)
       by_cases h0:i=0
       ·have e3:(0<(i:Int))=False:=eq_false (by omega)
        simp -implicitDefEqProofs only[↓reduceIte,go_sem,Nat.reduceLT,Nat.reduceEqDiff,reduceCtorEq,List.set_set,t3,t4,e1,e3,hpart,e5,e6,e7,e8,hlt']
        exact fin _ (by simp -implicitDefEqProofs only[↓reduceIte,go_sem,Nat.reduceLT])
       ·have e3:(0<(i:Int))=True:=eq_true (by omega)
        have e4:((c:Int)=0)=False:=eq_false (by omega)
        simp -implicitDefEqProofs only[↓reduceIte,go_sem,Nat.reduceLT,Nat.reduceEqDiff,reduceCtorEq,List.set_set,t3,t4,e1,e3,e4,hpart,e5,e6,e7,e8,hlt']
        exact fin _ (by simp -implicitDefEqProofs only[↓reduceIte,go_sem,Nat.reduceLT])
     ·rw[if_neg hlt]
      have hlt':((c:Int)<128)=False:=eq_false (by omega)
      by_cases h9:k=0
      ·have e1:((i:Int)=9)=True:=eq_true (by omega)
       have e2:(1<(c:Int))=False:=eq_false (by omega)
       have e3:(0<(i:Int))=True:=eq_true (by omega)
       have e4:((c:Int)=0)=False:=eq_false (by omega)
       simp -implicitDefEqProofs only[↓reduceIte,go_sem,Nat.reduceLT,Nat.reduceEqDiff,reduceCtorEq,List.set_set,t3,t4,e1,e2,e3,e4,hpart,e5,e6,e7,e8,hlt',hw2]
       exact nxt _ (by simp -implicitDefEqProofs only[↓reduceIte,go_sem,reduceCtorEq,t0]) (by simp -implicitDefEqProofs only[↓reduceIte,go_sem,Nat.reduceLT,Nat.reduceEqDiff]) (by simp -implicitDefEqProofs only[↓reduceIte,go_sem,Nat.reduceLT])
      ·have e1:((i:Int)=9)=False:=eq_false (by omega)
       by_cases h0:i=0
       ·have e3:(0<(i:Int))=False:=eq_false (by omega)
        simp -implicitDefEqProofs only[↓reduceIte,go_sem,Nat.reduceLT,Nat.reduceEqDiff,reduceCtorEq,List.set_set,t3,t4,e1,e3,hpart,e5,e6,e7,e8,hlt',hw2]
        exact nxt _ (by simp -implicitDefEqProofs only[↓reduceIte,go_sem,reduceCtorEq,t0]) (by simp -implicitDefEqProofs only[↓reduceIte,go_sem,Nat.reduceLT,Nat.reduceEqDiff]) (by simp -implicitDefEqProofs only[↓reduceIte,go_sem,Nat.reduceLT])
       ·have e3:(0<(i:Int))=True:=eq_true (by omega)
        have e4:((c:Int)=0)=False:=eq_false (by omega)
        simp -implicitDefEqProofs only[↓reduceIte,go_sem,Nat.reduceLT,Nat.reduceEqDiff,reduceCtorEq,List.set_set,t3,t4,e1,e3,e4,hpart,e5,e6,e7,e8,hlt',hw2]
        exact nxt _ (by simp -implicitDefEqProofs only[↓reduceIte,go_sem,reduceCtorEq,t0]) (by simp -implicitDefEqProofs only[↓reduceIte,go_sem,Nat.reduceLT,Nat.reduceEqDiff]) (by simp -implicitDefEqProofs only[↓reduceIte,go_sem,Nat.reduceLT])
theorem u9(H:aa)(a:AV):oZ Tryz.prog 36 [a] H .returning H .returning:=by
 refine oZ.aj (hint:=fun _=>false) Tryz.func36 (by kernel_rfl) rfl ⟨_,rfl⟩ rfl rfl rfl rfl rfl (by rw[Tryz.ntmps36];decide) rfl (by simp[Tryz.ntmps36]) .ret ?_
 rw[Tryz.ntmps36]
 simp -implicitDefEqProofs only[↓reduceIte,go_sem,Nat.reduceLT]
 exact⟨_,.refl _ _⟩
theorem mA(H:aa)(id:Nat)(x:AV)(e:Int)(ho:H[id]?=some (.box 31 1 0 1 [x])):oZ Tryz.prog 36 [.ptr id 0 0 0] H (FV (eV e)) (H.set id (.box 31 1 0 1 [iA e])) (Jf (eV e)):=by
 refine oZ.aj (hint:=fun _=>false) Tryz.func36 (by kernel_rfl) rfl ⟨_,rfl⟩ rfl rfl rfl rfl rfl (by rw[Tryz.ntmps36];decide) rfl (by simp[Tryz.ntmps36]) (.OC _) ?_
 rw[Tryz.ntmps36]
 simp -implicitDefEqProofs only[↓reduceIte,go_sem,au,Nat.reduceLT,Nat.reduceEqDiff,reduceCtorEq,ho]
 exact⟨_,.refl _ _⟩
theorem zu:∀(k acc:Nat) (b:List Nat),(dV k acc b).2.length≤b.length
 |0,_,b=>Nat.le_refl _
 |_+1,_,[]=>Nat.le_refl _
 |k+1,acc,c::b=>by
  simp only[dV]
  split
  ·simp
  ·split
   ·simp
   ·exact Nat.le_trans (zu k _ b) (by simp)
def aQ(b:List Nat):Nat×Nat×Int:=match dV 10 0 b with
 |(.ok n,r)=>(n,b.length-r.length,0)
 |(.error e,_)=>(0,0,e)
theorem oQ(b:List Nat)(hl:b.length<1000000000000000)(hb:∀c∈b,c<256)(H:aa):ag Tryz.prog 16 [.d (.list false (aD b))] H (.ok (.bz [uA (aQ b).1,iA (aQ b).2.1,iA (aQ b).2.2])) H:=by
 refine ag.oI (hint:=fun _=>false) Tryz.func16 (by kernel_rfl) rfl [.tmp 2,.tmp 3,.cell 4 31] (by kernel_rfl) rfl rfl rfl rfl (by simp[Tryz.ntmps16]) ?_
 rw[Tryz.ntmps16]
 simp -implicitDefEqProofs only[↓reduceIte,go_sem,au,Nat.reduceLT,Nat.reduceEqDiff,reduceCtorEq]
 have hd:=qp (H++[.box 31 1 0 1 [iA 0],iU b]) (H.length+1) b hl hb (by simp)
 have hset:∀x y z:aT,(H++[x,y]).set (H.length+1) z=H++[x,z]:=fun x y z=>by simp[]
 have hset0:∀x y z:aT,(H++[x,y]).set H.length z=H++[z,y]:=fun x y z=>by simp[]
 rw[hset]at hd
 have hg:aQ b=match dV 10 0 b with
  |(.ok n,r)=>(n,b.length-r.length,0)
  |(.error e,_)=>(0,0,e):=rfl
 rcases hn:dV 10 0 b with⟨_|n,r⟩
 ·rename_i e
  rw[hn]at hd hg
  rw[hg]
  refine ae.panic hd ?_
  simp -implicitDefEqProofs only[↓reduceIte,go_sem,Nat.reduceLT]
  refine⟨_,mA _ _ (iA 0) e (by simp),?_⟩
  rw[hset0]
  refine aZ.ret ?_
  simp -implicitDefEqProofs only[↓reduceIte,go_sem,ah,Nat.reduceAdd,Nat.reduceLT,Nat.reduceEqDiff,reduceCtorEq,aJ,a8]
 ·rw[hn]at hd hg
  rw[hg]
  refine ae.ok hd ?_
  simp -implicitDefEqProofs only[↓reduceIte,go_sem,Nat.reduceLT,iU]
  refine ig 7 K.mixed (by kernel_rfl) (by kernel_rfl) ?_
  have hw:IntKind.i64.wrap ((b.length:Int)-(r.length:Int))=((b.length-r.length:Nat):Int):=by
   have:=zu 10 0 b
   rw[hn]at this
   simp only at this
   rw[wrap64_in _ (by omega) (by omega)];omega
  simp -implicitDefEqProofs only[↓reduceIte,go_sem,ah,au,Nat.reduceLT,Nat.reduceEqDiff,reduceCtorEq,ai,hw]
  refine⟨_,u9 _ _,?_⟩
  refine aZ.ret ?_
  simp -implicitDefEqProofs only[↓reduceIte,go_sem,ah,Nat.reduceAdd,Nat.reduceLT,Nat.reduceEqDiff,reduceCtorEq,aJ,a8]
theorem kg(b:List Nat)(nn:Bool)(hl:b.length<1000000000000000)(hb:∀c∈b,c<256)(H:aa):ag Tryz.prog 16 [.d (.list nn (aD b))] H (.ok (.bz [uA (aQ b).1,iA (aQ b).2.1,iA (aQ b).2.2])) H:=by
 cases nn
 ·exact oQ b hl hb H
 ·exact(oQ b hl hb H).sub (.cons (.nn _) .nil)
def dA(n:Nat):Int:=if n%2=1 then -((n/2:Nat):Int)-1 else((n/2:Nat):Int)
theorem sZ(k:IntKind)(a b:Nat)(ha:a<2^k.bits)(hb:b<2^k.bits):sF k (a:Int) (b:Int)=((a^^^b:Nat):Int):=by
 simp[sF,BitVec.toNat_xor,BitVec.ofInt_natCast,Nat.mod_eq_of_lt ha,Nat.mod_eq_of_lt hb]
theorem Df(a b:Nat)(ha:a<18446744073709551616)(hb:b<18446744073709551616):sF .i64 (a:Int) (b:Int)=((a^^^b:Nat):Int):=sZ .i64 a b ha hb
theorem Kj(n:Nat)(h:n<18446744073709551616):IntKind.i64.wrap (sF .i64 (IntKind.i64.wrap (j6 .u64 (n:Int) 1)) (IntKind.i64.wrap (0-IntKind.i64.wrap (IntKind.u64.wrap (xC .u64 (n:Int) 1)))))=dA n:=by
 have s1:j6 .u64 (n:Int) 1=((n/2:Nat):Int):=yz n 1 (by decide)
 have s2:xC .u64 (n:Int) 1=((n%2:Nat):Int):=by
  have:=om .u64 n 1 (by simp only[IntKind.bits];omega) (by decide)
  rw[Nat.and_one_is_mod]at this
  exact this
 rw[s1,s2,aK _ (by omega),wrap64_in (n/2:Nat) (by omega) (by omega),wrap64_in (n%2:Nat) (by omega) (by omega)]
 unfold dA
 by_cases h1:n%2=1
 ·rw[if_pos h1,h1]
  have e:sF .i64 ((n/2:Nat):Int) (IntKind.i64.wrap (0-((1:Nat):Int)))=sF .i64 ((n/2:Nat):Int) ((18446744073709551615:Nat):Int):=by
   have:BitVec.ofInt 64 (IntKind.i64.wrap (0-((1:Nat):Int)))=BitVec.ofInt 64 ((18446744073709551615:Nat):Int):=by decide
   simp only[sF,IntKind.bits,this]
  rw[e,Df _ _ (by omega) (by omega),Nat.xor_comm,Nat.xor_comm,Ho _ (by omega)]
  simp only[IntKind.wrap,IntKind.signed,IntKind.bits]
  simp only[show((2:Int)^64)=18446744073709551616 from rfl,show((2:Int)^(64-1))=9223372036854775808 from rfl]
  simp
  split<;>omega
 ·rw[if_neg h1,show n%2=0 by omega]
  have e:IntKind.i64.wrap (0-((0:Nat):Int))=((0:Nat):Int):=by decide
  rw[e,Df _ _ (by omega) (by omega),Nat.xor_zero]
  exact wrap64_in _ (by omega) (by omega)
theorem ry(n:Nat)(h:n<18446744073709551616)(H:aa):ag Tryz.prog 72 [uA n] H (.ok (iA (dA n))) H:=by
 refine ag.aj (hint:=(fun _=>false)) Tryz.func72 (by kernel_rfl) rfl [2] (by kernel_rfl) (by decide) (by simp[Tryz.ntmps72]) ?_
 rw[Tryz.ntmps72]
 simp -implicitDefEqProofs only[↓reduceIte,go_sem,Nat.reduceLT,Nat.reduceEqDiff,Int.reduceLE,reduceCtorEq]
 refine aw.aI ?_
 simp -implicitDefEqProofs only[↓reduceIte,go_sem,Nat.reduceLT,Kj n h]
def cK(b:List Nat):List Bool:=b.flatMap fun c=>ca c 8
theorem gY:∀b:List Nat,(cK b).length=8* b.length
 |[]=>rfl
 |c::b=>by
  have:cK (c::b)=ca c 8++cK b:=rfl
  rw[this,List.length_append,gY b,eo,List.length_cons];omega
theorem pq:∀(b:List Nat) (i:Nat) (c:Nat),b[i/8]?=some c→(cK b)[i]?=some (c.testBit (i%8))
 |[],i,c,h=>by simp at h
 |x::b,i,c,h=>by
  have e:cK (x::b)=ca x 8++cK b:=rfl
  rw[e]
  by_cases hi:i<8
  ·rw[show i/8=0 by omega]at h
   cases h
   rw[List.getElem?_append_left (by rw[eo];exact hi),show i%8=i by omega]
   simp[ca,hi]
  ·rw[show i/8=(i-8)/8+1 by omega,List.getElem?_cons_succ]at h
   rw[List.getElem?_append_right (by rw[eo];omega),eo,pq b (i-8) c h]
   congr 2
   omega
theorem yX(L:List Bool)(k:Nat)(c:Bool)(h:L[k]?=some c):byteOf (L.take (k+1))=byteOf (L.take k)+c.toNat* 2^k:=by
 have hk:k<L.length:=(List.getElem?_eq_some_iff.1 h).1
 rw[List.take_add_one,h,Option.toList_some,mg,List.length_take,Nat.min_eq_left (Nat.le_of_lt hk)]
def rH(G:aa)(b:List Nat)(at_:Nat)(T:aa):aa:=G++ .arr 5 1 1 (aD b):: .box 192 2 0 1 [.sl G.length 1 0 b.length,iA at_]::T
theorem EO(b:List Nat)(nn:Bool)(hl:b.length≤140737488351232)(H:aa):ag Tryz.prog 111 [.d (.list nn (aD b))] H (.ok (.ptr (H.length+1) 0 0 0)) (rH H b 0 []):=by
 generalize hE:rH H b 0 []=E
 refine ag.aj (hint:=(fun _=>false)) Tryz.func111 (by kernel_rfl) rfl [2] (by kernel_rfl) (by decide) (by simp[Tryz.ntmps111]) ?_
 rw[Tryz.ntmps111]
 simp -implicitDefEqProofs only[↓reduceIte,go_sem,Nat.reduceAdd,Nat.reduceLT,Nat.reduceLeDiff,Nat.reduceEqDiff,reduceCtorEq,aL,ai]
 refine⟨by omega,by omega,?_⟩
 rw[←hE]
 refine⟨_,ay.refl _ _,?_⟩
 simp -implicitDefEqProofs only[↓reduceIte,go_sem,Nat.reduceLT]
theorem vk(b:List Nat)(at_:Nat)(hl:b.length≤140737488351232)(ha:at_≤8* b.length)(G T:aa):ag Tryz.prog 112 [.ptr (G.length+1) 0 0 0] (rH G b at_ T) (.ok (iA ((8* b.length-at_:Nat):Int))) (rH G b at_ T):=by
 refine ag.aj (hint:=(fun _=>false)) Tryz.func112 (by kernel_rfl) rfl [2] (by kernel_rfl) (by decide) (by simp[Tryz.ntmps112]) ?_
 rw[Tryz.ntmps112]
 simp -implicitDefEqProofs only[↓reduceIte,go_sem,Nat.reduceLT,reduceCtorEq,rH]
 refine aO K.mixed (by kernel_rfl) ?_
 have h1:IntKind.i64.wrap (8* (b.length:Int))=8* (b.length:Int):=wrap64_in _ (by omega) (by omega)
 have h2:IntKind.i64.wrap (8* (b.length:Int)-(at_:Int))=((8* b.length-at_:Nat):Int):=by rw[wrap64_in _ (by omega) (by omega)];omega
 generalize 8* b.length-at_=z at*
 simp -implicitDefEqProofs only[↓reduceIte,go_sem,ah,Nat.reduceAdd,Nat.reduceLT,Nat.reduceLeDiff,Nat.reduceEqDiff,reduceCtorEq]
 refine⟨_,ay.refl _ _,?_⟩
 simp -implicitDefEqProofs only[↓reduceIte,go_sem,Nat.reduceLT,h1,h2]
theorem NK(x:Nat)(j:Nat)(hx:x<256)(hj:j<8):IntKind.u64.wrap (IntKind.u8.wrap (xC .u8 (j6 .u8 (x:Int) (j:Int)) 1))=(((x.testBit j).toNat:Nat):Int):=by
 have h1:min j 8=j:=by omega
 have e:j6 .u8 (x:Int) (j:Int)=((x/2^j:Nat):Int):=by
  simp only[j6,IntKind.bits,Int.toNat_natCast,h1]
  rw[Int.fdiv_eq_ediv_of_nonneg _ (by exact_mod_cast Nat.zero_le _)]
  norm_cast
 have h2:x/2^j<256:=Nat.lt_of_le_of_lt (Nat.div_le_self _ _) hx
 rw[e]
 have:=om .u8 (x/2^j) 1 h2 (by decide)
 rw[show((1:Nat):Int)=1 from rfl]at this
 rw[this,Nat.and_one_is_mod,mq _ (by omega),aK _ (by omega),Nat.testBit_eq_decide_div_mod_eq]
 rcases Nat.mod_two_eq_zero_or_one (x/2^j)with h|h<;>rw[h]<;>rfl
theorem uN(b:List Nat)(at_ w:Nat)(hl:b.length≤140737488351232)(hb:∀c∈b,c<256)(ha:at_+w≤8* b.length)(hw:w≤64)(G T:aa):
  ag Tryz.prog 113 [.ptr (G.length+1) 0 0 0,iA w] (rH G b at_ T) (.ok (.bz [du (byteOf (((cK b).drop at_).take w)),iA 0])) (rH G b (at_+w) T):=by
 generalize hE:rH G b (at_+w) T=E
 refine ag.aj (hint:=(fun _=>false)) Tryz.func113 (by kernel_rfl) rfl [4,5] (by kernel_rfl) (by decide) (by simp[Tryz.ntmps113]) ?_
 rw[Tryz.ntmps113]
 simp -implicitDefEqProofs only[↓reduceIte,go_sem,Nat.reduceLT,Nat.reduceEqDiff,reduceCtorEq,rH,show((w:Int)<0)=False from eq_false (by omega),show((64:Int)<(w:Int))=False from eq_false (by omega)]
 refine ae.ok (vk b at_ hl (by omega) G T) ?_
 simp -implicitDefEqProofs only[↓reduceIte,go_sem,Nat.reduceLT,Nat.reduceEqDiff,show(((8* b.length-at_:Nat):Int)<(w:Int))=False from eq_false (by omega)]
 refine bW (fun k s H'=>H'=rH G b (at_+k) T∧s 0= .ptr (G.length+1) 0 0 0∧s 6=du (byteOf (((cK b).drop at_).take k))∧s 24=iA w∧s 25=iA k) w (by omega) (ay.refl _ _) ?_ ?_ ?_
 ·refine⟨rfl,?_⟩
  simp -implicitDefEqProofs only[↓reduceIte,go_sem,Nat.reduceLT,Nat.reduceEqDiff,reduceCtorEq,List.take_zero,byteOf]
  rfl
 ·rintro k s H' hk hw2 ⟨rfl,t0,t6,t24,t25⟩
  have hq:(at_+k)/8<b.length:=by omega
  have hm8:(at_+k)%8<8:=Nat.mod_lt _ (by decide)
  have hx:=List.getElem?_eq_getElem hq
  have hbx:=ow b _ hq
  have hx8:=hb _ (List.getElem_mem hq)
  generalize b[(at_+k)/8]=x at hx hbx hx8
  have hbit:=pq b _ x hx
  have ht:=yX ((cK b).drop at_) k _ (by rw[List.getElem?_drop];exact hbit)
  have hlt:=jh (((cK b).drop at_).take k)
  have hll:(((cK b).drop at_).take k).length=k:=by rw[List.length_take,List.length_drop,gY];omega
  rw[hll]at hlt
  have hu:=NK x _ hx8 hm8
  generalize x.testBit ((at_+k)%8)=c at hu ht
  generalize byteOf (((cK b).drop at_).take k)=n at hlt ht t6
  have hp63:2^k≤2^63:=Nat.pow_le_pow_right (by decide) (by omega)
  have hcl:c.toNat* 2^k≤2^k:=by cases c<;>simp
  have e7:=J7 c.toNat k (by omega) (by omega)
  have e8:=OD n c.toNat k hlt (by omega)
  obtain⟨p,hp⟩:∃p,p=at_+k:=⟨_,rfl⟩
  rw[←hp]at hq hm8 hbx hu
  have hwq:IntKind.i64.wrap ((p/8:Nat):Int)=((p/8:Nat):Int):=wrap64_in _ (by omega) (by omega)
  have hwm:IntKind.u64.wrap ((p%8:Nat):Int)=((p%8:Nat):Int):=aK _ (by omega)
  have hwk:IntKind.u64.wrap ((k:Nat):Int)=((k:Nat):Int):=aK _ (by omega)
  have hw3:IntKind.i64.wrap ((p:Int)+1)=((p+1:Nat):Int):=by rw[wrap64_in _ (by omega) (by omega)];rfl
  simp only[←hp]
  rw[show at_+(k+1)=p+1 by omega,ht]
  generalize c.toNat* 2^k=y at*
  generalize n+y=z at*
  simp -implicitDefEqProofs only[↓reduceIte,go_sem,Nat.reduceLT,Nat.reduceEqDiff,rH,t24,t25,hk]
  refine aO K.mixed (by kernel_rfl) ?_
  simp -implicitDefEqProofs only[↓reduceIte,go_sem,ah,au,Nat.reduceAdd,Nat.reduceLT,Nat.reduceLeDiff,Nat.reduceEqDiff,Int.reduceEq,reduceCtorEq,rH,t0,t6,t25,Gf,vE,hwq,hwm,hwk,hbx,hq,hu,e7,e8]
  refine c9.same ⟨?_,?_⟩
  ·simp -implicitDefEqProofs only[go_sem,hw3]
  ·simp -implicitDefEqProofs only[↓reduceIte,go_sem,Nat.reduceLT,Nat.reduceEqDiff,reduceCtorEq,t0,t24,hw2]
 ·rintro s H' ⟨rfl,t0,t6,t24,t25⟩
  simp -implicitDefEqProofs only[↓reduceIte,go_sem,Nat.reduceLT,Nat.reduceEqDiff,t6,t24,t25]
  rw[hE]
  exact⟨_,ay.refl _ _,by simp -implicitDefEqProofs only[↓reduceIte,go_sem,Nat.reduceLT,Nat.reduceEqDiff]⟩
def uM(b:List Nat)(w k:Nat):Nat:=byteOf (((cK b).drop (k* w)).take w)
def bG(b:List Nat)(n w:Nat):List Nat:=(List.range n).map (uM b w)
theorem cr(b:List Nat)(n w:Nat):(bG b n w).length=n:=by simp[bG]
theorem lu(b:List Nat)(n w:Nat):bG b (n+1) w=bG b n w++[uM b w n]:=by simp[bG,List.range_succ]
def bq(b:List Nat)(n w:Nat):Int:=if 8* b.length<n* w then 3 else if n* w+8≤8* b.length then 4 else if byteOf ((cK b).drop (n* w))=0 then 0 else 4
def eF(b:List Nat)(n w:Nat):AV:=if bq b n w=0 then .d (.list false (us (bG b n w)))else .d (.v (.slice none 0 0))
theorem ml(b:List Nat)(n w:Nat)(nn:Bool)(hl:b.length≤140737488351232)(hb:∀c∈b,c<256)(hn:n≤1048576)(hw:w≤64)(H:aa):
  ag Tryz.prog 71 [.d (.list nn (aD b)),iA n,iA w] H (.ok (.bz [eF b n w,iA (bq b n w)])) H:=by
 have hnw:n* w≤1048576* 64:=Nat.mul_le_mul hn hw
 have c1:((n:Int)<0)=False:=eq_false (by omega)
 have c2:((1048576:Int)<(n:Int))=False:=eq_false (by omega)
 have c3:((w:Int)<0)=False:=eq_false (by omega)
 have c4:((64:Int)<(w:Int))=False:=eq_false (by omega)
 refine ag.aj (hint:=(fun _=>false)) Tryz.func71 (by kernel_rfl) rfl [6,7] (by kernel_rfl) (by decide) (by simp[Tryz.ntmps71]) ?_
 rw[Tryz.ntmps71]
 simp -implicitDefEqProofs only[↓reduceIte,go_sem,Nat.reduceLT,Nat.reduceEqDiff,reduceCtorEq,c1,c2,c3,c4]
 refine ae.ok (EO b nn hl H) ?_
 simp -implicitDefEqProofs only[↓reduceIte,go_sem,Nat.reduceLT]
 refine ae.ok (vk b 0 hl (by omega) H []) ?_
 have e1:IntKind.i64.wrap ((n:Int)* (w:Int))=((n* w:Nat):Int):=by rw[←Int.natCast_mul];exact wrap64_in _ (by omega) (by omega)
 obtain⟨r,hr⟩:∃r:Int,r=((8* b.length:Nat):Int)-((n* w:Nat):Int):=⟨_,rfl⟩
 have e2:IntKind.i64.wrap (((8* b.length-0:Nat):Int)-((n* w:Nat):Int))=r:=by rw[Nat.sub_zero,hr];exact wrap64_in _ (by omega) (by omega)
 generalize hN:n* w=N at*
 generalize hM:8* b.length-0=M at*
 simp -implicitDefEqProofs only[↓reduceIte,go_sem,Nat.reduceLT,Nat.reduceEqDiff,e1,e2]
 by_cases h1:r<0
 ·have hE:bq b n w=3:=by unfold bq;rw[hN,if_pos (by omega)]
  simp -implicitDefEqProofs only[go_sem,h1]
  unfold rH
  refine aw.ret ?_
  simp -implicitDefEqProofs only[↓reduceIte,go_sem,Nat.reduceLT,Nat.reduceEqDiff]
  simp[eF,hE]
 by_cases h2:8≤r
 ·have hE:bq b n w=4:=by unfold bq;rw[hN,if_neg (by omega),if_pos (by omega)]
  simp -implicitDefEqProofs only[↓reduceIte,go_sem,Nat.reduceLT,Nat.reduceEqDiff,h1,h2]
  unfold rH
  refine aw.ret ?_
  simp -implicitDefEqProofs only[↓reduceIte,go_sem,Nat.reduceLT,Nat.reduceEqDiff]
  simp[eF,hE]
 simp -implicitDefEqProofs only[↓reduceIte,go_sem,Nat.reduceLT,Nat.reduceEqDiff,h1,h2]
 refine bW (fun k s H'=>H'=rH H b (k* w) [.arr 49 1 k (us (bG b k w))]∧s 2=iA w∧s 8= .ptr (H.length+1) 0 0 0∧s 9=iA r∧s 10= .sl (H.length+2) k 0 k∧s 43=iA n∧s 44=iA k) n (by omega) (ay.db _ _ 10 49 1 (by decide) (by simp -implicitDefEqProofs only[↓reduceIte,go_sem,Nat.reduceLT,Nat.reduceEqDiff]) _) ?_ ?_ ?_
 ·refine⟨?_,?_⟩
  ·simp -implicitDefEqProofs only[go_sem,rH,Nat.zero_mul]
   rfl
  ·simp -implicitDefEqProofs only[↓reduceIte,go_sem,Nat.reduceLT,Nat.reduceEqDiff,show(rH H b 0 []).length=H.length+2 from by simp[rH]]
 ·rintro k s H' hk hw2 ⟨rfl,t2,t8,t9,t10,t43,t44⟩
  simp -implicitDefEqProofs only[↓reduceIte,go_sem,Nat.reduceLT,Nat.reduceEqDiff,t2,t8,t43,t44,hk]
  have hkw:k* w+w≤n* w:=by rw[←Nat.succ_mul];exact Nat.mul_le_mul_right _ hk
  have hL:=cr b k w
  have hs:bG b (k+1) w=bG b k w++[byteOf (((cK b).drop (k* w)).take w)]:=lu b k w
  have hkw2:(k+1)* w=k* w+w:=Nat.succ_mul k w
  refine ae.ok (uN b (k* w) w hl hb (by omega) hw H _) ?_
  rw[hs,hkw2]
  generalize byteOf (((cK b).drop (k* w)).take w)=x
  generalize bG b k w=L at*
  generalize k* w=at_ at*
  simp -implicitDefEqProofs only[↓reduceIte,go_sem,Nat.reduceAdd,Nat.reduceLT,Nat.reduceLeDiff,Nat.reduceEqDiff,t10,t44,rH,cT,hL,mD,List.length_singleton]
  refine⟨by omega,by omega,c9.same ⟨?_,?_⟩⟩
  ·simp -implicitDefEqProofs only[go_sem]
  ·simp -implicitDefEqProofs only[↓reduceIte,go_sem,Nat.reduceLT,Nat.reduceEqDiff,t2,t8,t9,t43,hw2]
 ·rintro s H' ⟨rfl,t2,t8,t9,t10,t43,t44⟩
  simp -implicitDefEqProofs only[↓reduceIte,go_sem,Nat.reduceLT,Nat.reduceEqDiff,t8,t9,t43,t44]
  have hr3:r=((8* b.length-N:Nat):Int):=by omega
  rw[hN,hr3]
  refine ae.ok (uN b N (8* b.length-N) hl hb (by omega) (by omega) H _) ?_
  have htk:((cK b).drop N).take (8* b.length-N)=(cK b).drop N:=List.take_of_length_le (by rw[List.length_drop,gY];exact Nat.le_refl _)
  rw[htk]
  by_cases h0:byteOf ((cK b).drop N)=0
  ·have hE:bq b n w=0:=by unfold bq;rw[hN,if_neg (by omega),if_neg (by omega),if_pos h0]
   rw[h0]
   simp -implicitDefEqProofs only[↓reduceIte,go_sem,Nat.reduceLT,Nat.reduceEqDiff,t10]
   unfold rH
   refine aw.ret ?_
   simp -implicitDefEqProofs only[↓reduceIte,go_sem,Nat.reduceLT,Nat.reduceEqDiff]
   rw[show(us (bG b n w)).take n=us (bG b n w)from bQ _ _ (by rw[cT,cr])]
   simp[eF,hE]
  ·have hE:bq b n w=4:=by unfold bq;rw[hN,if_neg (by omega),if_neg (by omega),if_neg h0]
   have h0':(((byteOf ((cK b).drop N):Nat):Int)=0)=False:=eq_false (by omega)
   simp -implicitDefEqProofs only[↓reduceIte,go_sem,Nat.reduceLT,Nat.reduceEqDiff,h0']
   unfold rH
   refine aw.ret ?_
   simp -implicitDefEqProofs only[↓reduceIte,go_sem,Nat.reduceLT,Nat.reduceEqDiff]
   simp[eF,hE]
theorem gM{n:Int}(h1:-9223372036854775808≤n)(h2:n≤9223372036854775807):fj n<18446744073709551616:=by unfold fj;split<;>omega
theorem dY(n:Int):-9223372036854775808≤IntKind.i64.wrap n∧IntKind.i64.wrap n≤9223372036854775807:=by
 have h1:=Int.emod_nonneg n (show(18446744073709551616:Int)≠0 by decide)
 have h2:=Int.emod_lt_of_pos n (show(0:Int)<18446744073709551616 by decide)
 simp only[IntKind.wrap,IntKind.signed,IntKind.bits]
 simp only[show((2:Int)^64)=18446744073709551616 from rfl,show((2:Int)^(64-1))=9223372036854775808 from rfl]
 generalize n%18446744073709551616=m at*
 by_cases h:m≥9223372036854775808<;>simp[h]<;>omega
theorem ET{l:List Nat}:∀{a:Nat},a≤l.foldl (·|||·) a∧∀n∈l,n≤l.foldl (·|||·) a:=by
 induction l with
 |nil=>intro a;exact⟨Nat.le_refl _,fun n hn=>by simp at hn⟩
 |cons x l ih=>
  intro a
  simp only[List.foldl_cons]
  have h:=ih (a:=a|||x)
  refine⟨Nat.le_trans Nat.left_le_or h.1,fun n hn=>?_⟩
  rcases List.mem_cons.1 hn with rfl|hn
  ·exact Nat.le_trans Nat.right_le_or h.1
  ·exact h.2 n hn
theorem jR{l:List Nat}:∀n∈l,n<2^cw l:=fun n hn=>Nat.lt_of_le_of_lt (ET.2 n hn) ((fO _ _).1 (Nat.le_refl _))
theorem jg{l:List Nat}(h:∀n∈l,n<18446744073709551616):cw l≤64:=FN (pT h (by decide))
theorem bD:∀(k n:Nat),n<128^k→(bp n).length≤k+1:=by
 intro k
 induction k with
 |zero=>intro n hn;rw[cY (by omega)];simp
 |succ k ih=>
  intro n hn
  by_cases h:n<128
  ·rw[cY h];simp
  ·rw[kA h,List.length_cons]
   have:=ih (n/128) (by rw[Nat.div_lt_iff_lt_mul (by decide)];exact hn)
   omega
theorem dO{l:List aq}{k:Int}(h:aS l k=0):l.length≤4096:=by
 unfold aS at h
 by_cases h1:4096<l.length
 ·rw[if_pos h1]at h
  split at h<;>omega
 ·omega
def lL(l:List Nat):ByteArray:=gP (l.map fun(n:Nat)=>(n:Int))
theorem dq:∀l:List Nat,iu (aD l)=some (l.map fun(n:Nat)=>(n:Int))
 |[]=>rfl
 |n::l=>by
  show iu ([.v (.int .u8 (n:Int))]::aD l)=_
  simp only[iu,dq l];rfl
theorem iv(l:List Nat):gP (l.map fun(n:Nat)=>(n:Int))=lL l:=rfl
theorem wI(ns:List Int)(b:ByteArray):(ns.foldl (fun r n=>r.push (UInt8.ofNat n.toNat)) b).data.toList=b.data.toList++ns.map fun n=>UInt8.ofNat n.toNat:=by
 induction ns generalizing b with
 |nil=>simp
 |cons n ns ih=>rw[List.foldl_cons,ih];simp[ByteArray.push]
theorem ji(l:List Nat):(lL l).toList=l.map UInt8.ofNat:=by
 rw[ByteArray.toList_eq]
 unfold lL gP
 rw[wI]
 simp[List.map_map,Function.comp_def]
def cb(l:List Nat):Prop:=∀n∈l,n<256
theorem ofNat_inj{a b:Nat}(ha:a<256)(hb:b<256)(h:UInt8.ofNat a=UInt8.ofNat b):a=b:=by
 have:=congrArg UInt8.toNat h
 simpa[Nat.mod_eq_of_lt ha,Nat.mod_eq_of_lt hb]using this
theorem yE:∀{l m:List Nat},cb l→cb m→l.map UInt8.ofNat=m.map UInt8.ofNat→l=m
 |[],[],_,_,_=>rfl
 |[],_::_,_,_,h=>by simp at h
 |_::_,[],_,_,h=>by simp at h
 |a::l,b::m,hl,hm,h=>by
  simp only[List.map_cons,List.cons.injEq]at h
  rw[ofNat_inj (hl a (by simp)) (hm b (by simp)) h.1,yE (fun n hn=>hl n (by simp[hn])) (fun n hn=>hm n (by simp[hn])) h.2]
theorem km{l m:List Nat}(hl:cb l)(hm:cb m):((lL l).toList==(lL m).toList)=decide (l=m):=by
 rw[ji,ji,Bool.eq_iff_iff]
 simp only[beq_iff_eq,decide_eq_true_eq]
 exact⟨yE hl hm,fun h=>by rw[h]⟩
theorem cS(l:List Nat)(k:Nat):(aD l).drop k=aD (l.drop k):=by simp[aD,List.map_drop]
theorem nW(l:List Nat)(k:Nat):(aD l).take k=aD (l.take k):=by simp[aD,List.map_take]
def cG(n:Int):aq:=⟨1,n,cP⟩
theorem xM(n:Int):cA (cG n)=true:=by simp[cA,cG,gl]
theorem CH{l:List aq}(h:∀v∈l,∃n,v=cG n)(hl:l.length≤4096):aS l 1=0:=by
 have h1:l.any (fun v=> !decide (v.kind=1))=false:=by
  rw[List.any_eq_false]
  intro v hv
  obtain⟨n,rfl⟩:=h v hv
  simp[cG]
 have h2:l.any (fun v=> !cA v)=false:=by
  rw[List.any_eq_false]
  intro v hv
  obtain⟨n,rfl⟩:=h v hv
  simp[xM]
 unfold aS
 rw[h1,h2]
 simp[bJ,show ¬4096<l.length by omega]
theorem Fg:∀(k n:Nat),n<128^k→cb (bp n):=by
 intro k
 induction k with
 |zero=>intro n hn m hm;rw[cY (by omega)]at hm;simp at hm;omega
 |succ k ih=>
  intro n hn
  by_cases h:n<128
  ·rw[cY h];intro m hm;simp at hm;omega
  ·rw[kA h]
   intro m hm
   rcases List.mem_cons.1 hm with rfl|hm
   ·omega
   ·exact ih (n/128) (by rw[Nat.div_lt_iff_lt_mul (by decide)];exact hn) m hm
theorem dH{n:Nat}(h:n<18446744073709551616):cb (bp n):=Fg 10 n (by omega)
theorem BO(l:List Nat)(w:Nat):cb (cF l w):=by
 intro n hn
 unfold cF bR at hn
 obtain⟨i,_,rfl⟩:=List.mem_map.1 hn
 exact mR _ _
theorem cb.app{l m:List Nat}(hl:cb l)(hm:cb m):cb (l++m):=fun n hn=>by
 rcases List.mem_append.1 hn with h|h
 ·exact hl n h
 ·exact hm n h
theorem eO(b:List Nat):(aQ b).2.1≤b.length:=by
 unfold aQ
 split<;>simp
theorem wE:∀(k acc:Nat) (b:List Nat) (n:Nat),acc<128^(10-k)→k≤10→(dV k acc b).1= .ok n→n<18446744073709551616
 |0,_,_,_,_,_,h=>by simp[dV]at h
 |_+1,_,[],_,_,_,h=>by simp[dV]at h
 |k+1,acc,c::b,n,ha,hk,h=>by
  have hm:c%128<128:=Nat.mod_lt _ (by decide)
  have hi:10-(k+1)=9-k:=by omega
  rw[hi]at ha
  have hA:acc+c%128* 128^(9-k)<128^(9-k)* 128:=by
   have:c%128* 128^(9-k)≤127* 128^(9-k):=Nat.mul_le_mul_right _ (by omega)
   omega
  simp only[dV]at h
  split at h
  ·cases h
  ·rename_i hbad
   split at h
   ·cases h
    by_cases h0:k=0
    ·subst h0
     have hc:c%128≤1:=by omega
     have h2:c%128* 128^9≤1* 128^9:=Nat.mul_le_mul_right _ hc
     simp only[Nat.sub_zero]at ha⊢
     omega
    ·have h9:128^(9-k)≤128^8:=Nat.pow_le_pow_right (by decide) (by omega)
     omega
   ·by_cases h0:k=0
    ·subst h0;simp[dV]at h
    ·refine wE k _ b n ?_ (by omega) h
     rw[show 10-k=(9-k)+1 by omega,Nat.pow_succ]
     exact hA
theorem fh(b:List Nat):(aQ b).1<18446744073709551616:=by
 unfold aQ
 split
 ·rename_i n r h
  exact wE 10 0 b n (by decide) (Nat.le_refl _) (by rw[h])
 ·exact(by decide:(0:Nat)<18446744073709551616)
theorem gp(b:List Nat)(n w:Nat)(hw:w≤64):∀x∈bG b n w,x<18446744073709551616:=by
 intro x hx
 obtain⟨k,_,rfl⟩:=List.mem_map.1 hx
 have h1:=jh (((cK b).drop (k* w)).take w)
 have h2:2^(((cK b).drop (k* w)).take w).length≤2^64:=Nat.pow_le_pow_right (by decide) (by simp;omega)
 unfold uM
 omega
end Go.Proofs.YtmbagpfmfiegkaaGreat

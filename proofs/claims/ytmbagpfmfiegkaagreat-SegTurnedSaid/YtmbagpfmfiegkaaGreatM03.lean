/- Regions that draw their order: in the order of their text is enough, where operations leave the heap alone. Words for the program's data. Structs held against structs. The program's structs held against each other. Values, atoms: the program's data as Lean's. Numbers as arguments. cmp.Compare, flt.Compare, val.Compare: what they do. Functions of which a result lies in memory. An owned array that is handed on: from then on it never changes. Drawn regions in which some operations change the heap: what does not depend on that. Drawn regions with stores that may come late: what is read stays as it is. What a function leaves may be frozen afterwards. A slot that is nil may be taken for an empty list. The empty text. seg.Zone: what it does. val.May: what it does. slices.IndexFunc, ContainsFunc of values with a closure: what they do. plain.Check: what it does. leb.Zig, delta.Steps: what they do. Numbers that are not negative, in the machine's operations. math/bits.Len64: what it does; numbers of bits. Lists of numbers and of bytes. bits.Width, leb.Put, bits.Pack: what they do. bits.Writer, bits.Pack: what they do. Zig's numbers: plain facts. Widths, and lengths of bytes: plain facts. Bytes as a text, and what is a byte: plain facts. leb.Text, val.Bytes: what they do. Stable sorting, in plain Lean: what is sorted, and stands alike within each class, is one list. -/
import Derived.Laws.StructEq
import Derived.Laws.Externs
import Derived.Laws.Bits64b
import Derived.Laws.Bits64
import Derived.Test.YtmbagpfmfiegkaaGreatM02
set_option maxHeartbeats 8000000
set_option maxRecDepth 100000
set_option linter.all false
namespace Go.Proofs.YtmbagpfmfiegkaaGreatAw
open Go.RowKit
section
variable {P:Program} {hint:Nat→Bool} {s s':Nat→AV} {H:aa}
theorem CM{op:BinOp}{t:TypeId}{u v:Value}{K:Value→Prop}(h:cF P op t u v K):∃r,K r∧∀K',K' r→cF P op t u v K':=by
 unfold cF at h⊢
 repeat' (split at h)
 all_goals first|exact h.elim|exact⟨_,h,fun K' g=>g⟩|exact⟨_,h.2,fun K' g=>⟨h.1,g⟩⟩|exact⟨_,h.2.2,fun K' g=>⟨h.1,h.2.1,g⟩⟩|(obtain⟨r,h1,h2⟩:=h;first|exact⟨r,h2,fun K' g=>⟨r,h1,g⟩⟩|exact⟨r,h2,fun K' g=>by simp_all;exact⟨r,h1,g⟩⟩)
theorem Fy{op:UnOp}{u:Value}{K:Value→Prop}(h:At op u K):∃r,K r∧∀K',K' r→At op u K':=by
 cases op<;>cases u<;>first|exact h.elim|exact⟨_,h,fun K' g=>g⟩|exact⟨_,h.2,fun K' g=>⟨h.1,g⟩⟩
theorem mQ{b:Builtin}{args:List Operand}{tys:List TypeId}{K:AV→aa→Prop}(h:ck P s H b args tys K):∃r H',K r H'∧∀K',K' r H'→ck P s H b args tys K':=by
 unfold ck at h⊢
 repeat' (split at h)
 all_goals first|exact h.elim|(exact(show False from by first|exact h.2|exact h.2.2|exact h.2.2.2|exact h.2.2.2.2).elim)|exact⟨_,_,h,fun K' g=>g⟩|exact⟨_,_,h.2,fun K' g=>⟨h.1,g⟩⟩|exact⟨_,_,h.2.2,fun K' g=>⟨h.1,h.2.1,g⟩⟩|exact⟨_,_,h.2.2.2,fun K' g=>⟨h.1,h.2.1,h.2.2.1,g⟩⟩|exact⟨_,_,h.2.2.2.2.2,fun K' g=>⟨h.1,h.2.1,h.2.2.1,h.2.2.2.1,h.2.2.2.2.1,g⟩⟩|exact⟨_,_,h.2.2.2.2.2.2,fun K' g=>⟨h.1,h.2.1,h.2.2.1,h.2.2.2.1,h.2.2.2.2.1,h.2.2.2.2.2.1,g⟩⟩
theorem xM{k:Nat}{lo:Option Int}{hi:Nat→Option Int}{x:AV}{K:AV→aa→Prop}(h:di H k lo hi K x):∃r H',K r H'∧∀K',K' r H'→di H k lo hi K' x:=by
 cases x with
 |d u=>
  cases u with
  |v _=>exact h.elim
  |list nn es=>
   simp only[di]at h⊢
   obtain⟨h0,h⟩:=h
   cases lo with
   |none=>exact h.elim
   |some l=>
    cases hq:hi es.length with
    |none=>rw[hq]at h;exact h.elim
    |some m=>rw[hq]at h;exact⟨_,_,h.2.2.2,fun K' g=>⟨h0,h.1,h.2.1,h.2.2.1,g⟩⟩
 |sl id ver off len=>
  simp only[di]at h⊢
  cases ho:H[id]? with
  |none=>rw[ho]at h;exact h.elim
  |some o=>
   rw[ho]at h
   cases lo with
   |none=>exact h.elim
   |some l=>
    cases hq:hi len with
    |none=>rw[hq]at h;exact h.elim
    |some m=>rw[hq]at h;exact⟨_,_,h.2.2.2.2.2,fun K' g=>⟨h.1,h.2.1,h.2.2.1,h.2.2.2.1,h.2.2.2.2.1,g⟩⟩
 |_=>exact h.elim
theorem wj{k:Nat}{lo hi mx:Option Int}{x:AV}{K:AV→aa→Prop}(h:fD H k lo hi mx K x):∃r H',K r H'∧∀K',K' r H'→fD H k lo hi mx K' x:=by
 cases x with
 |d u=>
  cases u with
  |v _=>exact h.elim
  |list nn es=>cases lo<;>cases hi<;>cases mx<;>first|exact h.2.elim|exact⟨_,_,h.2.2.2.2.2,fun K' g=>⟨h.1,h.2.1,h.2.2.1,h.2.2.2.1,h.2.2.2.2.1,g⟩⟩
 |_=>exact h.elim
theorem ug{n:Nat}{x:AV}{K:AV→aa→Prop}(h:wg H n K x):∃r H',K r H'∧∀K',K' r H'→wg H n K' x:=by
 cases x with
 |cu ds=>exact⟨_,_,h.2,fun K' g=>⟨h.1,g⟩⟩
 |_=>exact h.elim
theorem vl{t:TypeId}{ok:Bool}{v:Option Value}{K:AV→aa→Prop}(h:eA P t ok H K v):∃r H',K r H'∧∀K',K' r H'→eA P t ok H K' v:=by
 unfold eA at h⊢
 cases e:kF P t ok v with
 |none=>rw[e]at h;exact h.2.elim
 |some r=>rw[e]at h;exact⟨_,_,h.2,fun K' g=>⟨h.1,g⟩⟩
def j7(hint:Nat→Bool):Op→Bool
 | .next _ _=>false
 | .call c=>(match c.callee with| .value _=> !hint 3000000|_=>true)
 |_=>true
theorem E5{hi:Bool}{op:Op}{K:AV→aa→Prop}(hd:j7 hint op=true)(h:fY P s H hi op K):∃r H',K r H'∧∀K',K' r H'→fY P s H hi op K':=by
 unfold fY at h⊢
 repeat' (split at h)
 all_goals first|exact h.elim|(cases hd;done)|(obtain⟨h1,id,e',h2,h3⟩:=h;exact⟨_,_,h3,fun K' g=>by rw[if_pos (by assumption)];exact⟨h1,id,e',h2,g⟩⟩)|(exact⟨_,_,h.2,fun K' g=>by rw[if_neg (by assumption)];exact⟨h.1,g⟩⟩)|(obtain⟨h1,h2,h⟩:=h;obtain⟨r,H',g1,g2⟩:=ug h;exact⟨r,H',g1,fun K' g=>⟨h1,h2,g2 K' g⟩⟩)|(exact(show False from by first|exact h.2|exact h.2.2|exact h.2.2.2|exact h.2.2.2.2).elim)|exact⟨_,_,h,fun K' g=>g⟩|exact⟨_,_,h.2,fun K' g=>⟨h.1,g⟩⟩|exact⟨_,_,h.2.2,fun K' g=>⟨h.1,h.2.1,g⟩⟩|exact⟨_,_,h.2.2.2,fun K' g=>⟨h.1,h.2.1,h.2.2.1,g⟩⟩|exact⟨_,_,h.2.2.2.2.2.2,fun K' g=>⟨h.1,h.2.1,h.2.2.1,h.2.2.2.1,h.2.2.2.2.1,h.2.2.2.2.2.1,g⟩⟩|exact⟨_,_,h.2.2.2.2,fun K' g=>⟨h.1,h.2.1,h.2.2.1,h.2.2.2.1,g⟩⟩|exact mQ h|
  (obtain⟨r,h1,h2⟩:=CM h;exact⟨_,_,h1,fun K' g=>h2 _ g⟩)|(obtain⟨r,h1,h2⟩:=Fy h;exact⟨_,_,h1,fun K' g=>h2 _ g⟩)|exact xM h|exact wj h|exact vl h|(obtain⟨h1,h2,h⟩:=h;obtain⟨r,H',g1,g2⟩:=ug h;exact⟨r,H',g1,fun K' g=>⟨h1,h2,g2 K' g⟩⟩)|skip
 all_goals first|(exfalso;simp_all;done)|exact⟨_,_,h,fun K' g=>by rw[if_pos (by assumption)];exact g⟩|exact⟨_,_,h,fun K' g=>by rw[if_neg (by assumption)];exact g⟩|exact⟨_,_,h.2,fun K' g=>by rw[if_pos (by assumption)];exact⟨h.1,g⟩⟩|exact⟨_,_,h.2,fun K' g=>⟨h.1,by first|(rw[if_pos (by assumption)];exact g)|(rw[if_neg (by assumption)];exact g)⟩⟩|
  exact⟨_,_,h.2,fun K' g=>by rw[if_neg (by assumption)];exact⟨h.1,by first|(rw[if_pos (by assumption)];exact g)|(rw[if_neg (by assumption)];exact g)⟩⟩|trace_state
theorem fw{o:Oper}{K:AV→aa→Prop}(hdo:j7 hint o.op=true)(h:ay P hint s H o K (fun _ _=>False)):∃r H',K r H'∧∀K' KP',K' r H'→ay P hint s H o K' KP':=by
 unfold ay at h⊢
 split at h
 ·split at h<;>exact h.elim
 ·split at h
  ·split at h
   ·obtain⟨res,H',hd,h⟩:=h
    cases res with
    |ok r=>exact⟨r,H',h,fun K' KP' g=>⟨.ok r,H',hd,g⟩⟩
    |panic v=>exact h.elim
   ·exfalso
    have h1:=h.1
    clear h
    simp_all [j7]
   ·exact h.elim
  ·obtain⟨r,H',h1,h2⟩:=mQ h
   exact⟨r,H',h1,fun K' KP' g=>h2 _ g⟩
  ·exact h.elim
 ·obtain⟨r,H',h1,h2⟩:=E5 hdo h
  exact⟨r,H',h1,fun K' KP' g=>h2 _ g⟩
theorem wW{x:Operand}(h:∀t,x= .tmp t→s t=s' t):ae s x=ae s' x:=by
 cases x with
 |tmp t=>exact h t rfl
 |_=>rfl
def kA(o:Oper):List Tmp:=o.op.operands.toList.filterMap fun| .tmp t=>some t|_=>none
theorem xN{o:Oper}(h:∀t∈kA o,s t=s' t)(x:Operand)(hx:x∈o.op.operands):ae s x=ae s' x:=
 wW fun t ht=>h t (by subst ht;exact List.mem_filterMap.2 ⟨_,Array.mem_toList_iff.2 hx,rfl⟩)
theorem tf{parts:Array (Nat×Operand)}(h:∀p∈parts.toList,ae s p.2=ae s' p.2):cy s parts=cy s' parts:=by
 unfold cy
 exact List.map_congr_left fun p hp=>by rw[h p hp]
theorem iH{k:IntKind}:∀{xs:List Operand},(∀x∈xs,ae s x=ae s' x)→cw s k xs=cw s' k xs
 |[],_=>rfl
 |x::xs,h=>by
  unfold cw
  rw[h x (by simp),iH fun y hy=>h y (by simp[hy])]
theorem gM{b:Builtin}{args:List Operand}{tys:List TypeId}{K:AV→aa→Prop}(h:∀x∈args,ae s x=ae s' x):ck P s H b args tys K=ck P s' H b args tys K:=by
 unfold ck
 split
 ·rw[h _ (by simp)]
 ·rw[h _ (by simp),h _ (by simp)]
 ·rw[h _ (by simp)]
 ·rw[h _ (by simp),h _ (by simp)]
 ·rename_i x xs
  rw[h x (by simp)]
  have e:∀k,cw s k xs=cw s' k xs:=fun k=>iH fun y hy=>h y (by simp[hy])
  simp only[e]
 ·rename_i x xs
  rw[h x (by simp)]
  have e:∀k,cw s k xs=cw s' k xs:=fun k=>iH fun y hy=>h y (by simp[hy])
  simp only[e]
 ·rfl
theorem AL{hi:Bool}{op:Op}{K:AV→aa→Prop}(h:∀x∈op.operands,ae s x=ae s' x):fY P s H hi op K=fY P s' H hi op K:=by
 unfold fY
 split
 all_goals first
  |rfl
  |(have e:=tf (s:=s) (s':=s') fun p hp=>h p.2 (by simp only[Op.operands,List.mem_toArray,List.mem_map];exact⟨p,hp,rfl⟩);simp only[e];done)
  |exact gM fun x hx=>h x (by simp only[Op.operands,Call.operands];exact Array.mem_append.2 (.inr (Array.mem_toList_iff.1 hx)))
  |(split
    ·exact gM fun x hx=>h x (by simp only[Op.operands,Call.operands];exact Array.mem_append.2 (.inr (Array.mem_toList_iff.1 hx)))
    ·rfl)
  |(rename_i x lo hi' mx
    have e0:ae s x=ae s' x:=h _ (by simp[Op.operands])
    have e2:a8 s (some hi')=a8 s' (some hi'):=by simp only[a8];rw[h hi' (by simp[Op.operands])]
    have e3:a8 s (some mx)=a8 s' (some mx):=by simp only[a8];rw[h mx (by simp[Op.operands])]
    have e1:a8 s lo=a8 s' lo:=by
     cases lo with
     |none=>rfl
     |some y=>simp only[a8];rw[h y (by simp[Op.operands])]
    rw[e0,e1,e2,e3];done)
  |(rename_i x xT t ok;rw[h x (by simp[Op.operands])];done)
  |(rename_i x lo hi'
    have e0:ae s x=ae s' x:=h _ (by simp[Op.operands])
    have e1:a8 s lo=a8 s' lo:=by
     cases lo with
     |none=>rfl
     |some y=>simp only[a8];rw[h y (by simp[Op.operands])]
    have e2:∀n,c7 s n hi'=c7 s' n hi':=by
     intro n
     cases hi' with
     |none=>rfl
     |some y=>simp only[c7];rw[h y (by simp[Op.operands])]
    first|(simp only[e0,e1,e2];done)|(simp only[e0,e1,funext e2];done))
  |(simp[Op.operands]at h;simp only[h];done)
  |(rename_i caps;rw[List.map_congr_left fun x hx=>h x (by simp only[Op.operands];exact Array.mem_append.2 (.inr (Array.mem_toList_iff.1 hx)))];done)
  |skip
 all_goals
  rename_i x lo hi'
  have e0:ae s x=ae s' x:=h _ (by simp[Op.operands])
  have e1:a8 s lo=a8 s' lo:=by
   cases lo with
   |none=>rfl
   |some y=>simp only[a8];rw[h y (by simp[Op.operands])]
  have e2:∀n,c7 s n hi'=c7 s' n hi':=by
   intro n
   cases hi' with
   |none=>rfl
   |some y=>simp only[c7];rw[h y (by simp[Op.operands])]
  simp only[e0,e1,e2,C7]
theorem ir{o:Oper}{K:AV→aa→Prop}{KP:Value→aa→Prop}(h:∀t∈kA o,s t=s' t):ay P hint s H o K KP=ay P hint s' H o K KP:=by
 have h':=xN h
 unfold ay
 split
 ·rename_i x hx
  rw[h' x (by rw[hx];simp[Op.operands])]
 ·rename_i c hc
  have hm:∀x∈c.operands,ae s x=ae s' x:=fun x hx=>h' x (by rw[hc];exact hx)
  split
  ·rename_i f hf
   have e1:ae s f=ae s' f:=hm f (by simp[Call.operands,hf])
   have e2:c.args.toList.map (ae s)=c.args.toList.map (ae s'):=List.map_congr_left fun x hx=>hm x (by simp only[Call.operands];exact Array.mem_append.2 (.inr (Array.mem_toList_iff.1 hx)))
   rw[e1,e2]
  ·exact gM fun x hx=>hm x (by simp only[Call.operands];exact Array.mem_append.2 (.inr (Array.mem_toList_iff.1 hx)))
  ·rfl
 ·exact AL h'
end
def bj(ops:Array Oper)(j:Nat):Option Tmp:=(ops[j]?).bind (·.dst)
def aY(o:Oper)(j:Nat):Bool:=o.after.toList.any fun e=>Region.binds .any e&&e.on==j
def cD(ops:Array Oper):Nat→Nat→Nat→Bool
 |0,_,_=>false
 |fuel+1,i,j=>match ops[i]? with
  |none=>false
  |some o=>aY o j||(List.range i).any fun k=>aY o k&&cD ops fuel k j
def ee(hint:Nat→Bool)(ops:Array Oper):Bool:=(List.range ops.size).all fun i=>match ops[i]? with
 |none=>true
 |some o=>(o.after.toList.all fun e=> !Region.binds .any e||decide (e.on<i))&&((kA o).all fun t=>(List.range ops.size).all fun j=> !(bj ops j==some t)||(aY o j||(match ops[j]? with|some oj=>aY oj i|none=>false)))&&
  (match o.guard with|some (j,_)=>aY o j|none=>true)&&j7 hint o.op&&((List.range ops.size).all fun j=>j==i||(bj ops i).isNone|| !(bj ops j==bj ops i))
structure pB (hint:Nat→Bool) (ops:Array Oper):Prop where
 down:∀(i:Nat) (o:Oper),ops[i]?=some o→∀e∈o.after,Region.binds .any e=true→e.on<i
 reads:∀(i:Nat) (o:Oper),ops[i]?=some o→∀t∈kA o,∀j,bj ops j=some t→aY o j=true∨∃oj,ops[j]?=some oj∧aY oj i=true
 guard:∀(i:Nat) (o:Oper),ops[i]?=some o→∀j w,o.guard=some (j,w)→aY o j=true
 H5:∀(i:Nat) (o:Oper),ops[i]?=some o→j7 hint o.op=true
 once:∀(i j:Nat) (t:Tmp),bj ops i=some t→bj ops j=some t→i=j
theorem et{ops:Array Oper}{j:Nat}{t:Tmp}(h:bj ops j=some t):j<ops.size:=by
 unfold bj at h
 obtain⟨o,ho,_⟩:=Option.bind_eq_some_iff.1 h
 exact(Array.getElem?_eq_some_iff.1 ho).1
theorem cA{hint:Nat→Bool}{ops:Array Oper}(h:ee hint ops=true):pB hint ops:=by
 unfold ee at h
 rw[List.all_eq_true]at h
 have key:∀i o,ops[i]?=some o→((o.after.toList.all fun e=> !Region.binds .any e||decide (e.on<i))=true∧((kA o).all fun t=>(List.range ops.size).all fun j=> !(bj ops j==some t)||(aY o j||(match ops[j]? with|some oj=>aY oj i|none=>false)))=true∧
   (match o.guard with|some (j,_)=>aY o j|none=>true)=true∧j7 hint o.op=true)∧((List.range ops.size).all fun j=>j==i||(bj ops i).isNone|| !(bj ops j==bj ops i))=true:=by
  intro i o ho
  have:=h i (List.mem_range.2 (Array.getElem?_eq_some_iff.1 ho).1)
  simp only[ho,Bool.and_eq_true]at this
  exact⟨⟨this.1.1.1.1,this.1.1.1.2,this.1.1.2,this.1.2⟩,this.2⟩
 refine⟨fun i o ho e he hbe=>?_,fun i o ho t ht j hj=>?_,fun i o ho j w hg=>?_,fun i o ho=>(key i o ho).1.2.2.2,fun i j t hi hj=>?_⟩
 ·have:=(key i o ho).1.1
  rw[List.all_eq_true]at this
  simpa[hbe]using this e (Array.mem_toList_iff.2 he)
 ·have:=(key i o ho).1.2.1
  rw[List.all_eq_true]at this
  have:=this t ht
  rw[List.all_eq_true]at this
  have:=this j (List.mem_range.2 (et hj))
  have hjl:=et hj
  have hoj:ops[j]?=some ops[j]:=by simp[hjl]
  rw[hj,hoj]at this
  simp only[beq_self_eq_true,Bool.not_true,Bool.false_or,Bool.or_eq_true]at this
  rcases this with h|h
  ·exact .inl h
  ·exact .inr ⟨_,hoj,h⟩
 ·have:=(key i o ho).1.2.2.1
  simpa[hg]using this
 ·obtain⟨o,ho,_⟩:=Option.bind_eq_some_iff.1 (show(ops[i]?).bind (·.dst)=some t from hi)
  have:=(key i o ho).2
  rw[List.all_eq_true]at this
  have:=this j (List.mem_range.2 (et hj))
  simp[hi,hj]at this
  exact this.symm
section
variable (P:Program) (hint:Nat→Bool) (n:Nat) (ops:Array Oper)
def iu(H:aa)(s:Nat→AV)(o:Oper)(r:AV):Prop:=match o.guard with
 |none=>∀K KP,K r H→ay P hint s H o K KP
 |some (j,want)=>∃b,fQ ops s n j want=some b∧if b=true then ∀K KP,K r H→ay P hint s H o K KP else r= .bf []
def b7(Q:aP):List Oper→(Nat→AV)→aa→Prop
 |[],s,H=>Q .normal s H
 |o::rest,s,H=>c8 P hint n ops (fun _ _ _=>False) o (fun s' H'=>H'=H∧b7 Q rest s' H) s H
def bF(s:Nat→AV)(rs:Nat→AV):Nat→(Nat→AV)
 |0=>s
 |k+1=>bJ n (bF s rs k) (bj ops k) (rs k)
end
section
variable (P:Program) (hint:Nat→Bool) (n:Nat) (ops:Array Oper)
def ve(Q:aP)(l:List Oper):aP:=fun e s H=>match e with| .normal=>aV P hint n ops Q l s H|_=>False
def cX(Q:aP):Nat→List Oper→(Nat→AV)→aa→Prop
 |0,l,s,H=>aV P hint n ops Q l s H
 |_+1,[],s,H=>aV P hint n ops Q [] s H
 |m+1,o::rest,s,H=>c8 P hint n ops (fun _ _ _=>False) o (fun s' H'=>H'=H∧cX Q m rest s' H) s H
end
theorem og{P:Program}{hint:Nat→Bool}{n:Nat}{ops:Array Oper}{Q:aP}:∀(m:Nat) (l:List Oper) (s:Nat→AV) (H:aa),cX P hint n ops Q m l s H=b7 P hint n ops (ve P hint n ops Q (l.drop m)) (l.take m) s H
 |0,l,s,H=>by simp[cX,b7,ve]
 |m+1,[],s,H=>by simp[cX,b7,ve]
 |m+1,o::rest,s,H=>by
  have e:∀s' H,cX P hint n ops Q m rest s' H=_:=fun s' H=>og m rest s' H
  simp only[cX,List.drop_succ_cons,List.take_succ_cons,b7,e]
theorem mS{P:Program}{hint:Nat→Bool}{n:Nat}{ops:Array Oper}{Q Q':aP}(hq:∀s H,Q .normal s H→Q' .normal s H):∀(l:List Oper) (s:Nat→AV) {H:aa},b7 P hint n ops Q l s H→b7 P hint n ops Q' l s H
 |[],s,H,h=>hq _ _ h
 |o::rest,s,H,h=>by
  unfold b7 at h⊢
  exact jq (fun _ _ _ h=>h) (fun s' H' h'=>⟨h'.1,mS hq rest s' h'.2⟩) h
section
variable {P:Program} {hint:Nat→Bool} {n:Nat} {ops:Array Oper} {H:aa} {Q:aP}
theorem iu.op{s:Nat→AV}{o:Oper}{r:AV}(h:iu P hint n ops H s o r){K:(Nat→AV)→aa→Prop}(hk:K (bJ n s o.dst r) H):c8 P hint n ops Q o K s H:=by
 unfold iu at h
 unfold c8
 split at h
 ·rename_i hg
  try simp only[hg]
  exact h (fun r H'=>K (bJ n s o.dst r) H') _ hk
 ·rename_i j want hg
  obtain⟨b,hb,h⟩:=h
  simp only[hg,hb]
  split at h
  ·rw[if_pos (by assumption)];exact h (fun r H'=>K (bJ n s o.dst r) H') _ hk
  ·rw[if_neg (by assumption)];rw[h]at hk;exact hk
theorem iu.congr{s s':Nat→AV}{o:Oper}{r:AV}(h:iu P hint n ops H s o r)(h1:∀t∈kA o,s t=s' t)(h2:∀j w,o.guard=some (j,w)→∀d,bj ops j=some d→s d=s' d):iu P hint n ops H s' o r:=by
 unfold iu at h⊢
 split at h
 ·rename_i hg
  try simp only[hg]
  intro K KP hk
  rw[←ir h1]
  exact h K KP hk
 ·rename_i j want hg
  try simp only[hg]
  obtain⟨b,hb,h⟩:=h
  refine⟨b,?_,?_⟩
  ·rw[←hb]
   unfold fQ
   have:=h2 j want hg
   unfold bj at this
   cases hd:(ops[j]?).bind (·.dst)with
   |none=>rfl
   |some d=>simp only[this d hd]
  ·split at h
   ·rw[if_pos (by assumption)]
    intro K KP hk
    rw[←ir h1]
    exact h K KP hk
   ·rw[if_neg (by assumption)];exact h
theorem kZ(hdt:∀(i:Nat) (o:Oper),ops[i]?=some o→j7 hint o.op=true)(m:Nat)(hm:m≤ops.size)(s0:Nat→AV)(rs0:Nat→AV):∀(l:List Oper) (k:Nat),l=(ops.toList.take m).drop k→k≤m→b7 P hint n ops Q l (bF n ops s0 rs0 k) H→
  ∃rs,(∀i,i<k→rs i=rs0 i)∧(∀i o,k≤i→i<m→ops[i]?=some o→iu P hint n ops H (bF n ops s0 rs i) o (rs i))∧Q .normal (bF n ops s0 rs m) H
 |[],k,hl,hk,h=>by
  have:m≤k:=by have:=congrArg List.length hl;simp at this;omega
  have hk':k=m:=by omega
  subst hk'
  exact⟨rs0,fun _ _=>rfl,fun i o hi hi2 ho=>absurd hi2 (by omega),h⟩
 |o::rest,k,hl,hk,h=>by
  have hlt:k<m:=by have:=congrArg List.length hl;simp at this;omega
  have ho:ops[k]?=some o:=by
   have:((ops.toList.take m).drop k)[0]?=some o:=by rw[←hl];rfl
   simpa[List.getElem?_take,hlt]using this
  have hrest:rest=(ops.toList.take m).drop (k+1):=by rw[←List.drop_drop];rw[←hl];rfl
  have hdst:bj ops k=o.dst:=by simp[bj,ho]
  have step:∃r,iu P hint n ops H (bF n ops s0 rs0 k) o r∧b7 P hint n ops Q rest (bJ n (bF n ops s0 rs0 k) o.dst r) H:=by
   unfold b7 c8 at h
   split at h
   ·rename_i hg
    obtain⟨r,H',⟨rfl,hr⟩,hdet⟩:=fw (hdt k o ho) h
    exact⟨r,by unfold iu;simp only[hg];exact fun K KP hk=>hdet K KP hk,hr⟩
   ·rename_i j want hg
    split at h
    ·rename_i b hb
     split at h
     ·rename_i hbw
      obtain⟨r,H',⟨rfl,hr⟩,hdet⟩:=fw (hdt k o ho) h
      exact⟨r,by unfold iu;simp only[hg];exact⟨b,hb,by rw[if_pos hbw];exact fun K KP hk=>hdet K KP hk⟩,hr⟩
     ·rename_i hbw
      exact⟨.bf [],by unfold iu;simp only[hg];exact⟨b,hb,by simp[hbw]⟩,h.2⟩
    ·exact h.elim
  obtain⟨r,hr,hnext⟩:=step
  let rs1:Nat→AV:=fun i=>if i=k then r else rs0 i
  have hst:∀i,i≤k→bF n ops s0 rs1 i=bF n ops s0 rs0 i:=by
   intro i
   induction i with
   |zero=>intro _;rfl
   |succ i ih=>
    intro hi
    simp only[bF,ih (by omega)]
    have:rs1 i=rs0 i:=by show(if i=k then r else rs0 i)=_;rw[if_neg (by omega)]
    rw[this]
  have hk1:rs1 k=r:=by show(if k=k then r else _)=r;rw[if_pos rfl]
  have h':b7 P hint n ops Q rest (bF n ops s0 rs1 (k+1)) H:=by
   simp only[bF,hst k (Nat.le_refl _),hk1,hdst]
   exact hnext
  obtain⟨rs,h1,h2,h3⟩:=kZ hdt m hm s0 rs1 rest (k+1) hrest hlt h'
  have hst2:∀i,i≤k→bF n ops s0 rs i=bF n ops s0 rs0 i:=by
   intro i
   induction i with
   |zero=>intro _;rfl
   |succ i ih=>
    intro hi
    simp only[bF,ih (by omega)]
    have e1:rs i=rs1 i:=h1 i (by omega)
    have e2:rs1 i=rs0 i:=by show(if i=k then r else rs0 i)=_;rw[if_neg (by omega)]
    rw[e1,e2]
  refine⟨rs,fun i hi=>?_,fun i o' hi hi2 ho'=>?_,h3⟩
  ·rw[h1 i (by omega)];show(if i=k then r else rs0 i)=_;rw[if_neg (by omega)]
  ·rcases Nat.lt_or_ge k i with hki|hki
   ·exact h2 i o' hki hi2 ho'
   ·obtain rfl:i=k:=by omega
    rw[ho]at ho'
    cases ho'
    rw[hst2 i (Nat.le_refl _),h1 i (by omega),hk1]
    exact hr
theorem mY{p q:Nat→Bool}{i:Nat}(hpq:∀j,p j=true→q j=true)(hp:p i=false)(hq:q i=true):∀l:List Nat,i∈l→l.countP p<l.countP q
 |[],h=>by simp at h
 |x::l,h=>by
  have hle:l.countP p≤l.countP q:=List.countP_mono_left fun j _=>hpq j
  rw[List.countP_cons,List.countP_cons]
  by_cases hx:i=x
  ·subst hx
   simp[hp,hq];omega
  ·have:=mY hpq hp hq l (by simpa[hx]using h)
   by_cases hpx:p x=true
   ·simp[hpx,hpq x hpx];omega
   ·simp[hpx];omega
theorem sq{listed:Array Bool}{o:Oper}{j:Nat}(h1:(o.after.all fun e=> !Region.binds .any e||listed.getD e.on false)=true)(h2:aY o j=true):listed.getD j false=true:=by
 unfold aY at h2
 rw[List.any_eq_true]at h2
 obtain⟨e,he,h2⟩:=h2
 rw[Array.all_eq_true_iff_forall_mem]at h1
 have:=h1 e (Array.mem_toList_iff.1 he)
 simp only[Bool.and_eq_true,beq_iff_eq]at h2
 simpa[h2.1,h2.2]using this
theorem gj{m0:Nat}(hc:pB hint ops)(htl:∀i o,ops[i]?=some o→m0<i→aY o (i-1)=true):∀{fuel:Nat} {listed:Array Bool} {s:Nat→AV} {H:aa},listed.size=ops.size→∀m,m0≤m→m≤ops.size→
  (∀i,i<m→listed.getD i true=true)→(∀i,m≤i→i<ops.size→listed.getD i false=false)→aV P hint n ops Q (ops.toList.drop m) s H→ops.size-m≤fuel→fR P hint n ops Q fuel listed s H:=by
 intro fuel
 induction fuel with
 |zero=>
  intro listed s H hsz m hm0 hm hall hno h hf
  have:m=ops.size:=by omega
  subst this
  rw[List.drop_of_length_le (by simp)]at h
  refine⟨?_,h⟩
  unfold Region.ready
  rw[List.filter_eq_nil_iff]
  intro i hi
  simp only[hall i (List.mem_range.1 hi),Bool.not_true,Bool.false_and,Bool.false_eq_true,not_false_eq_true]
 |succ fuel ih=>
  intro listed s H hsz m hm0 hm hall hno h hf
  rcases Nat.lt_or_ge m ops.size with hlt|hge
  ·have hget:ops[m]?=some ops[m]:=by simp[hlt]
   have hun:listed.getD m true=false:=by
    have:=hno m (Nat.le_refl _) hlt
    simpa[Array.getD,show m<listed.size by omega]using this
   have hd:ops.toList.drop m=ops[m]::ops.toList.drop (m+1):=by
    rw[List.drop_eq_getElem_cons (by simpa using hlt)];simp
   rw[hd]at h
   refine⟨fun hr=>?_,fun i hi=>?_⟩
   ·exfalso
    have:m∈Region.ready .any ops listed:=by
     unfold Region.ready
     rw[List.mem_filter]
     refine⟨List.mem_range.2 hlt,?_⟩
     simp only[hun,hget,Bool.not_false,Bool.true_and,Option.map_some,Option.getD_some]
     rw[Array.all_eq_true_iff_forall_mem]
     intro e he
     cases hbe:Region.binds .any e
     ·simp
     have hl:=hc.down m _ hget e he hbe
     have:=hall e.on hl
     have:listed.getD e.on false=true:=by simpa[Array.getD,show e.on<listed.size by omega]using this
     simp[this]
    rw[hr]at this
    simp at this
   ·unfold Region.ready at hi
    rw[List.mem_filter]at hi
    obtain⟨hi,hrd⟩:=hi
    have hi:=List.mem_range.1 hi
    have hgeti:ops[i]?=some ops[i]:=by simp[hi]
    simp only[hgeti,Option.map_some,Option.getD_some,Bool.and_eq_true,Bool.not_eq_true']at hrd
    obtain⟨hu,haft⟩:=hrd
    have him:i=m:=by
     rcases Nat.lt_trichotomy i m with h1|h1|h1
     ·rw[hall i h1]at hu;cases hu
     ·exact h1
     ·have:=sq haft (htl i _ hgeti (by omega))
      rw[hno (i-1) (by omega) (by omega)]at this
      cases this
    subst him
    simp only[hget]
    have hset:∀j b,(listed.setIfInBounds i true).getD j b=if j=i then true else listed.getD j b:=by
     intro j b
     simp only[Array.getD_eq_getD_getElem?,Array.getElem?_setIfInBounds]
     by_cases e:i=j
     ·subst e;simp[hsz,hi]
     ·rw[if_neg e,if_neg (Ne.symm e)]
    refine jq (fun _ _ _ h=>h) (fun s' H' h'=>?_) h
    refine ih (by simpa using hsz) (i+1) (by omega) hi (fun j hj=>?_) (fun j hj hj2=>?_) h' (by omega)
    ·rw[hset]
     by_cases e:j=i
     ·rw[if_pos e]
     ·rw[if_neg e];exact hall j (by omega)
    ·rw[hset,if_neg (by omega)]
     exact hno j (by omega) hj2
  ·have:m=ops.size:=by omega
   subst this
   rw[List.drop_of_length_le (by simp)]at h
   refine⟨fun _=>h,fun i hi=>?_⟩
   unfold Region.ready at hi
   rw[List.mem_filter]at hi
   obtain⟨hi,hrd⟩:=hi
   rw[hall i (List.mem_range.1 hi)]at hrd
   simp at hrd
theorem fH{L:Nat→Bool}(hcl:∀j oj i,ops[j]?=some oj→L j=true→aY oj i=true→L i=true):∀(fuel:Nat) (i:Nat) (o:Oper),ops[i]?=some o→
  (∀j,aY o j=true→L j=true)→∀j,cD ops fuel i j=true→L j=true
 |0,i,o,ho,hb,j,h=>by simp[cD]at h
 |fuel+1,i,o,ho,hb,j,h=>by
  simp only[cD,ho,Bool.or_eq_true,List.any_eq_true,Bool.and_eq_true]at h
  rcases h with h|⟨k,_,h1,h2⟩
  ·exact hb j h
  ·have hk:=hb k h1
   cases hok:ops[k]? with
   |none=>cases fuel<;>simp[cD,hok]at h2
   |some ok=>exact fH hcl fuel k ok hok (fun j' hj'=>hcl k ok j' hok hk hj') j h2
theorem lh{listed:Array Bool}(hcl:∀j oj i,ops[j]?=some oj→listed.getD j false=true→aY oj i=true→listed.getD i false=true)(fuel:Nat)(i:Nat)(o:Oper)(ho:ops[i]?=some o)
  (hb:∀j,aY o j=true→listed.getD j false=true) (j:Nat) (h:cD ops fuel i j=true):listed.getD j false=true:=fH (L:=fun c=>listed.getD c false) hcl fuel i o ho hb j h
theorem tU(hc:pB hint ops)(m:Nat)(hm:m≤ops.size)(htl:∀i o,ops[i]?=some o→(i=m→∀j,j<m→cD ops 12 i j=true)∧(m<i→aY o (i-1)=true))(s:Nat→AV)(rs:Nat→AV)(hs:∀i o,i<m→ops[i]?=some o→iu P hint n ops H (bF n ops s rs i) o (rs i))(hQ:aV P hint n ops Q (ops.toList.drop m) (bF n ops s rs m) H):
  ∀(fuel:Nat) (listed:Array Bool) (s':Nat→AV),listed.size=ops.size→(List.range ops.size).countP (fun j=> !listed.getD j true)≤fuel→
   (∀t j,bj ops j=some t→s' t=if listed.getD j false=true then(if t<n then rs j else .top)else s t)→(∀t,(∀j,bj ops j≠some t)→s' t=s t)→
   (∀j oj i,ops[j]?=some oj→listed.getD j false=true→aY oj i=true→listed.getD i false=true)→(∀i,m≤i→i<ops.size→listed.getD i false=false)→fR P hint n ops Q fuel listed s' H:=by
 have st_no:∀k t,(∀j,j<k→bj ops j≠some t)→bF n ops s rs k t=s t:=by
  intro k t
  induction k with
  |zero=>intro _;rfl
  |succ k ih=>
   intro h
   simp only[bF]
   cases hd:bj ops k with
   |none=>exact ih fun j hj=>h j (by omega)
   |some d=>
    simp only[bJ]
    have:t≠d:=fun e=>h k (by omega) (by rw[hd,e])
    rw[if_neg this]
    exact ih fun j hj=>h j (by omega)
 have st_dst:∀k t j,bj ops j=some t→j<k→bF n ops s rs k t=if t<n then rs j else .top:=by
  intro k t j hj
  induction k with
  |zero=>intro h;omega
  |succ k ih=>
   intro h
   simp only[bF]
   by_cases e:j=k
   ·subst e
    rw[hj]
    simp only[bJ,if_pos]
   ·have:=ih (by omega)
    cases hd:bj ops k with
    |none=>exact this
    |some d=>
     simp only[bJ]
     have hne:t≠d:=fun e'=>e (hc.once j k t hj (by rw[hd,e']))
     rw[if_neg hne]
     exact this
 have bind_of:∀(listed:Array Bool) (o:Oper) (j:Nat),(o.after.all fun e=> !Region.binds .any e||listed.getD e.on false)=true→aY o j=true→listed.getD j false=true:=by
  intro listed o j h1 h2
  unfold aY at h2
  rw[List.any_eq_true]at h2
  obtain⟨e,he,h2⟩:=h2
  rw[Array.all_eq_true_iff_forall_mem]at h1
  have:=h1 e (Array.mem_toList_iff.1 he)
  simp only[Bool.and_eq_true,beq_iff_eq]at h2
  simpa[h2.1,h2.2]using this
 have fin:∀(listed:Array Bool) (s':Nat→AV),(∀i,i<m→listed.getD i true=true)→(∀i,m≤i→i<ops.size→listed.getD i false=false)→listed.size=ops.size→
   (∀t j,bj ops j=some t→s' t=if listed.getD j false=true then(if t<n then rs j else .top)else s t)→(∀t,(∀j,bj ops j≠some t)→s' t=s t)→s'=bF n ops s rs m:=by
  intro listed s' hall hno hsz h1 h2
  funext t
  by_cases hd:∃j,bj ops j=some t
  ·obtain⟨j,hj⟩:=hd
   have hjl:=et hj
   rcases Nat.lt_or_ge j m with hjm|hjm
   ·have:listed.getD j false=true:=by
     have:=hall j hjm
     simpa[Array.getD,show j<listed.size by omega]using this
    rw[h1 t j hj,if_pos this,st_dst _ t j hj hjm]
   ·rw[h1 t j hj,if_neg (by simp[hno j hjm hjl]),st_no m t fun j' hj' hd'=>by
     have:=hc.once j' j t hd' hj
     omega]
  ·have hd':∀j,bj ops j≠some t:=fun j hj=>hd ⟨j,hj⟩
   rw[h2 t hd',st_no _ t fun j _=>hd' j]
 intro fuel
 induction fuel with
 |zero=>
  intro listed s' hsz hcnt h1 h2 hcl hno
  have hall:∀i,i<ops.size→listed.getD i true=true:=by
   intro i hi
   have h0:(List.range ops.size).countP (fun j=> !listed.getD j true)=0:=by omega
   rw[List.countP_eq_zero]at h0
   simpa using h0 i (List.mem_range.2 hi)
  have hs':=fin listed s' (fun i hi=>hall i (by omega)) hno hsz h1 h2
  subst hs'
  exact gj hc (fun i o ho hi=>(htl i o ho).2 hi) hsz m (Nat.le_refl _) hm (fun i hi=>hall i (by omega)) (fun i hi hi2=>hno i hi hi2) hQ (by
   rcases Nat.lt_or_ge m ops.size with h|h
   ·have e1:=hall m h
    have e2:=hno m (Nat.le_refl _) h
    simp[Array.getD,show m<listed.size by omega]at e1 e2
    rw[e1]at e2
    cases e2
   ·omega)
 |succ fuel ih=>
  intro listed s' hsz hcnt h1 h2 hcl hno
  by_cases hpre:∀i,i<m→listed.getD i true=true
  ·have hs':=fin listed s' hpre hno hsz h1 h2
   subst hs'
   refine gj hc (fun i o ho hi=>(htl i o ho).2 hi) hsz m (Nat.le_refl _) hm hpre hno hQ ?_
   have hsub:(List.range ops.size).countP (fun j=>decide (m≤j))≤(List.range ops.size).countP (fun j=> !listed.getD j true):=by
    refine List.countP_mono_left fun j hj hmj=>?_
    have hj:=List.mem_range.1 hj
    have:=hno j (by simpa using hmj) hj
    simp[Array.getD,show j<listed.size by omega]at this⊢
    exact this
   have hcm:∀N,m≤N→(List.range N).countP (fun j=>decide (m≤j))=N-m:=by
    intro N hN
    induction N with
    |zero=>simp
    |succ N ihN=>
     rw[List.range_succ,List.countP_append,List.countP_singleton]
     by_cases e:m≤N
     ·rw[ihN e];simp[e];omega
     ·have e':m=N+1:=by omega
      have:(List.range N).countP (fun j=>decide (m≤j))=0:=by
       rw[List.countP_eq_zero]
       intro j hj
       have:=List.mem_range.1 hj
       simp;omega
      rw[this];simp[e];omega
   rw[hcm _ hm]at hsub
   omega
  have hex:∃i,i<m∧listed.getD i true=false∧∀j,j<i→listed.getD j true=true:=by
   have:∃i,i<m∧listed.getD i true=false:=by
    rcases Classical.not_forall.1 hpre with⟨i,hi⟩
    rcases Classical.not_imp.1 hi with⟨h1,h2⟩
    exact⟨i,h1,by simpa using h2⟩
   obtain⟨i,hi⟩:=this
   induction i using Nat.strongRecOn with
   |_ i ihi=>
    by_cases hj:∃j,j<i∧listed.getD j true=false
    ·obtain⟨j,hj1,hj2⟩:=hj
     exact ihi j hj1 ⟨by omega,hj2⟩
    ·refine⟨i,hi.1,hi.2,fun j hji=>?_⟩
     cases hq:listed.getD j true with
     |true=>rfl
     |false=>exact absurd ⟨j,hji,hq⟩ hj
  obtain⟨i0,hi0,hu0,hb0⟩:=hex
  refine⟨fun hr=>?_,fun i hi=>?_⟩
  ·exfalso
   have hlt0:i0<ops.size:=by omega
   have hget:ops[i0]?=some ops[i0]:=by simp[hlt0]
   have:i0∈Region.ready .any ops listed:=by
    unfold Region.ready
    rw[List.mem_filter]
    refine⟨List.mem_range.2 hlt0,?_⟩
    simp only[hu0,hget,Bool.not_false,Bool.true_and,Option.map_some,Option.getD_some]
    rw[Array.all_eq_true_iff_forall_mem]
    intro e he
    cases hbe:Region.binds .any e
    ·simp
    have hlt:=hc.down i0 _ hget e he hbe
    have:=hb0 e.on hlt
    have:listed.getD e.on false=true:=by simpa[Array.getD,show e.on<listed.size by omega]using this
    simp[this]
   rw[hr]at this
   simp at this
  ·unfold Region.ready at hi
   rw[List.mem_filter]at hi
   obtain⟨hi,hrd⟩:=hi
   have hi:=List.mem_range.1 hi
   have hget:ops[i]?=some ops[i]:=by simp[hi]
   simp only[hget,Option.map_some,Option.getD_some,Bool.and_eq_true,Bool.not_eq_true']at hrd
   obtain⟨hun,haft⟩:=hrd
   simp only[hget]
   have hdst:bj ops i=(ops[i]).dst:=by simp[bj,hget]
   have hun':listed.getD i false=false:=by simpa[Array.getD,show i<listed.size by omega]using hun
   have him:i<m:=by
    rcases Nat.lt_or_ge i m with h|h
    ·exact h
    ·exfalso
     have hu0':listed.getD i0 false=false:=by simpa[Array.getD,show i0<listed.size by omega]using hu0
     rcases Nat.lt_or_ge m i with h2|h2
     ·have:=bind_of listed ops[i] (i-1) haft ((htl i _ hget).2 h2)
      rw[hno (i-1) (by omega) (by omega)]at this
      cases this
     ·have him:i=m:=by omega
      have:=lh hcl 12 i _ hget (fun j hj=>bind_of listed ops[i] j haft hj) i0 ((htl i _ hget).1 him i0 hi0)
      rw[this]at hu0'
      cases hu0'
   have agree:∀t j,bj ops j=some t→aY ops[i] j=true→bF n ops s rs i t=s' t:=by
    intro t j hj hb
    have hl:=bind_of listed ops[i] j haft hb
    have hlt:j<i:=by
     unfold aY at hb
     rw[List.any_eq_true]at hb
     obtain⟨e,he,hb⟩:=hb
     simp only[Bool.and_eq_true,beq_iff_eq]at hb
     have:=hc.down i _ hget e (Array.mem_toList_iff.1 he) hb.1
     omega
    rw[st_dst i t j hj hlt,h1 t j hj,if_pos hl]
   refine iu.op ((hs i _ him hget).congr (fun t ht=>?_) fun j w hg d hd=>agree d j hd (hc.guard i _ hget j w hg)) ?_
   ·by_cases hd:∃j,bj ops j=some t
    ·obtain⟨j,hj⟩:=hd
     rcases hc.reads i _ hget t ht j hj with hb|⟨oj,hoj,hb⟩
     ·exact agree t j hj hb
     ·have hnl:listed.getD j false=false:=by
       cases hq:listed.getD j false with
       |false=>rfl
       |true=>rw[hcl j oj i hoj hq hb]at hun';cases hun'
      have hlt:i<j:=by
       unfold aY at hb
       rw[List.any_eq_true]at hb
       obtain⟨e,he,hb⟩:=hb
       simp only[Bool.and_eq_true,beq_iff_eq]at hb
       have:=hc.down j _ hoj e (Array.mem_toList_iff.1 he) hb.1
       omega
      rw[h1 t j hj,if_neg (by simp[hnl]),st_no i t fun j' hj' hd'=>by
       have:=hc.once j' j t hd' hj
       omega]
    ·have hd':∀j,bj ops j≠some t:=fun j hj=>hd ⟨j,hj⟩
     rw[st_no i t fun j _=>hd' j,h2 t hd']
   ·have hset:∀j b,(listed.setIfInBounds i true).getD j b=if j=i then true else listed.getD j b:=by
     intro j b
     simp only[Array.getD_eq_getD_getElem?,Array.getElem?_setIfInBounds]
     by_cases e:i=j
     ·subst e;simp[hsz,hi]
     ·rw[if_neg e,if_neg (Ne.symm e)]
    refine ih _ _ (by simpa using hsz) ?_ ?_ ?_ ?_ ?_
    ·have:=mY (p:=fun j=> !(listed.setIfInBounds i true).getD j true) (q:=fun j=> !listed.getD j true) (i:=i) (fun j hj=>by
      simp only[hset]at hj⊢
      by_cases e:j=i
      ·simp[e]at hj
      ·simpa[e]using hj) (by simp[hset]) (by simp[hun]) (List.range ops.size) (List.mem_range.2 hi)
     omega
    ·intro t j hj
     rw[hset]
     by_cases e:j=i
     ·subst e
      rw[hdst]at hj
      rw[if_pos rfl,if_pos rfl,hj]
      simp only[bJ,if_pos]
     ·rw[if_neg e]
      cases hd:(ops[i]).dst with
      |none=>exact h1 t j hj
      |some d=>
       simp only[bJ]
       have:t≠d:=fun e'=>e (hc.once j i t hj (by rw[hdst,hd,e']))
       rw[if_neg this]
       exact h1 t j hj
    ·intro t ht
     cases hd:(ops[i]).dst with
     |none=>exact h2 t ht
     |some d=>
      simp only[bJ]
      have:t≠d:=fun e'=>ht i (by rw[hdst,hd,e'])
      rw[if_neg this]
      exact h2 t ht
    ·intro j oj i' hoj hlj hb
     rw[hset]at hlj⊢
     by_cases e':i'=i
     ·rw[if_pos e']
     ·rw[if_neg e']
      by_cases e:j=i
      ·subst e
       rw[hget]at hoj
       cases hoj
       exact bind_of listed _ i' haft hb
      ·rw[if_neg e]at hlj
       exact hcl j oj i' hoj hlj hb
    ·intro j hj hj2
     rw[hset,if_neg (by omega)]
     exact hno j hj hj2
def eg(ops:Array Oper)(m:Nat):Bool:=decide (m≤ops.size)&&(List.range ops.size).all fun i=>decide (i<m)||if i=m then(List.range m).all fun j=>cD ops 12 i j else match ops[i]? with
 |none=>true
 |some o=>aY o (i-1)
theorem eW{m:Nat}(h:eg ops m=true):m≤ops.size∧∀i o,ops[i]?=some o→(i=m→∀j,j<m→cD ops 12 i j=true)∧(m<i→aY o (i-1)=true):=by
 unfold eg at h
 simp only[Bool.and_eq_true,decide_eq_true_eq,List.all_eq_true]at h
 refine⟨h.1,fun i o ho=>?_⟩
 have:=h.2 i (List.mem_range.2 (Array.getElem?_eq_some_iff.1 ho).1)
 refine⟨fun e j hj=>?_,fun hi=>?_⟩
 ·subst e
  simp only[Nat.lt_irrefl,decide_false,Bool.false_or,if_true,List.all_eq_true]at this
  exact this j (List.mem_range.2 hj)
 ·have h1:¬i<m:=by omega
  have h2:¬i=m:=by omega
  simpa only[h1,h2,decide_false,Bool.false_or,if_false,ho]using this
theorem rF(m:Nat){H0:aa}{id:Nat}{s:Nat→AV}(hm:P.follows .mixedOrders=true)(hc:ee hint ops=true)(ht:eg ops m=true)
  (h:b7 P hint n ops (ve P hint n ops Q (ops.toList.drop m)) (ops.toList.take m) s H):cO P hint n H0 (.region id ops true) Q s H:=by
 obtain⟨hms,htl⟩:=eW ht
 refine⟨hm,?_⟩
 obtain⟨rs,_,h2,h3⟩:=kZ (cA hc).H5 m hms s (fun _=> .top) (ops.toList.take m) 0 rfl (Nat.zero_le _) h
 refine tU (cA hc) m hms htl s rs (fun i o hi ho=>h2 i o (Nat.zero_le _) hi ho) h3 ops.size (Array.replicate ops.size false) s (by simp) ?_ ?_ ?_ ?_ ?_
 ·exact Nat.le_trans List.countP_le_length (by simp)
 ·intro t j hj
  have hjl:=et hj
  rw[if_neg (by simp[Array.getD,hjl])]
 ·intro t _;rfl
 ·intro j oj i hoj hl
  have hjl:=(Array.getElem?_eq_some_iff.1 hoj).1
  simp[Array.getD,hjl]at hl
 ·intro i hi hi2
  simp[Array.getD,hi2]
theorem bP{H0:aa}{id:Nat}{s:Nat→AV}(hm:P.follows .mixedOrders=true)(hc:ee hint ops=true)(h:b7 P hint n ops Q ops.toList s H):cO P hint n H0 (.region id ops true) Q s H:=by
 refine rF ops.size hm hc ?_ ?_
 ·unfold eg
  simp only[Nat.le_refl,decide_true,Bool.true_and,List.all_eq_true]
  intro i hi
  simp[List.mem_range.1 hi]
 ·have e1:ops.toList.drop ops.size=[]:=List.drop_of_length_le (by simp)
  have e2:ops.toList.take ops.size=ops.toList:=List.take_of_length_le (by simp)
  rw[e1,e2]
  exact mS (Q:=Q) (Q':=ve P hint n ops Q []) (fun s H h=>h) _ _ h
theorem fu(m:Nat){H0:aa}{id:Nat}{s:Nat→AV}(hm:P.follows .mixedOrders=true)(hc:ee hint ops=true)(ht:eg ops m=true)
  (h:cX P hint n ops Q m ops.toList s H):cO P hint n H0 (.region id ops true) Q s H:=rF m hm hc ht (by rw[←og];exact h)
end
section
variable (P:Program) (hint:Nat→Bool) (n:Nat) (ops:Array Oper) (Q:aP) (rest:List Oper) (s:Nat→AV) (H:aa)
def wy(d:Option Tmp)(H0:aa):AV→aa→Prop:=fun r H'=>H'=H0∧b7 P hint n ops Q rest (bJ n s d r) H0
def CE:Value→aa→Prop:=fun _ _=>False
theorem A8(d:Option Tmp)(H0:aa)(r:AV):wy P hint n ops Q rest s d H0 r H=(H=H0∧b7 P hint n ops Q rest (bJ n s d r) H0):=rfl
theorem u0:b7 P hint n ops Q [] s H=Q .normal s H:=rfl
theorem tG(d:Option Tmp)(op:Op)(ty:TypeId)(p:String)(af:Array Edge):b7 P hint n ops Q (⟨d,op,ty,p,af,none⟩::rest) s H=ay P hint s H ⟨d,op,ty,p,af,none⟩ (wy P hint n ops Q rest s d H) CE:=rfl
theorem qX(d:Option Tmp)(op:Op)(ty:TypeId)(p:String)(af:Array Edge)(j:Nat)(b:Bool):
  b7 P hint n ops Q (⟨d,op,ty,p,af,some (j,b)⟩::rest) s H=ob (fQ ops s n j b) fun b'=>oI b' (ay P hint s H ⟨d,op,ty,p,af,some (j,b)⟩ (wy P hint n ops Q rest s d H) CE) (H=H∧b7 P hint n ops Q rest (bJ n s d (.bf [])) H):=by
 simp only[b7,c8,C7]
 cases fQ ops s n j b with
 |none=>rfl
 |some b'=>cases b'<;>rfl
def sz(m:Nat)(d:Option Tmp)(H0:aa):AV→aa→Prop:=fun r H'=>H'=H0∧cX P hint n ops Q m rest (bJ n s d r) H0
theorem zo(m:Nat)(d:Option Tmp)(H0:aa)(r:AV):sz P hint n ops Q rest s m d H0 r H=(H=H0∧cX P hint n ops Q m rest (bJ n s d r) H0):=rfl
theorem qD(l:List Oper):cX P hint n ops Q 0 l s H=aV P hint n ops Q l s H:=by cases l<;>rfl
theorem qF(m:Nat)(d:Option Tmp)(op:Op)(ty:TypeId)(p:String)(af:Array Edge):cX P hint n ops Q (m+1) (⟨d,op,ty,p,af,none⟩::rest) s H=ay P hint s H ⟨d,op,ty,p,af,none⟩ (sz P hint n ops Q rest s m d H) CE:=rfl
theorem uH(m:Nat)(l:List Oper):cX P hint n ops Q m l.toArray.toList s H=cX P hint n ops Q m l s H:=rfl
theorem xm(l:List Oper):b7 P hint n ops Q l.toArray.toList s H=b7 P hint n ops Q l s H:=rfl
end
@[congr] theorem Jf {P:Program} {hint:Nat→Bool} {n:Nat} {ops:Array Oper} {Q:aP} {l:List Oper} {s:Nat→AV} {H H':aa} (h:nf H=H'):b7 P hint n ops Q l s H=b7 P hint n ops Q l s H':=by rw[←h];rfl
@[congr] theorem IZ {P:Program} {hint:Nat→Bool} {n:Nat} {ops:Array Oper} {Q:aP} {rest:List Oper} {s:Nat→AV} {d:Option Tmp} {H0 H H':aa} {r r':AV} (g:nf r=r') (h:nf H=H'):wy P hint n ops Q rest s d H0 r H=wy P hint n ops Q rest s d H0 r' H':=by rw[←g,←h];rfl
@[congr] theorem H6 {P:Program} {hint:Nat→Bool} {n:Nat} {ops:Array Oper} {Q:aP} {m:Nat} {l:List Oper} {s:Nat→AV} {H H':aa} (h:nf H=H'):cX P hint n ops Q m l s H=cX P hint n ops Q m l s H':=by rw[←h];rfl
@[congr] theorem HG {P:Program} {hint:Nat→Bool} {n:Nat} {ops:Array Oper} {Q:aP} {rest:List Oper} {s:Nat→AV} {m:Nat} {d:Option Tmp} {H0 H H':aa} {r r':AV} (g:nf r=r') (h:nf H=H'):sz P hint n ops Q rest s m d H0 r H=sz P hint n ops Q rest s m d H0 r' H':=by rw[←g,←h];rfl
attribute [go_sem] zo qD qF uH
attribute [go_sem] A8 u0 tG qX xm
end Go.Proofs.YtmbagpfmfiegkaaGreatAw
namespace Go.Proofs.YtmbagpfmfiegkaaGreat
open Go.Proofs.YtmbagpfmfiegkaaGreatAw Go.RowKit
abbrev iD(n:Int):D:= .v (.int .i64 n)
abbrev iA(n:Int):AV:= .d (.v (.int .i64 n))
abbrev bA(b:Bool):AV:= .d (.v (.bool b))
abbrev uA(n:Int):AV:= .d (.v (.int .u64 n))
abbrev sA(b:ByteArray):AV:= .d (.v (.string b))
theorem IA:qP Tryz.prog 9=true:=by kernel_rfl
attribute [go_sem] IA
end Go.Proofs.YtmbagpfmfiegkaaGreat
namespace Go.Proofs.YtmbagpfmfiegkaaGreatAw
def DG(f:Field):Bool×TypeId×Nat:=(f.name != "_",f.type,f.offset)
def zH(d:Nat)(xs ys:Array Value):List (Bool×TypeId×Nat)→Sem Bool
 |[]=>pure true
 |(true,t,off)::fs=>do
   let a←part t xs off
   let b←part t ys off
   let r←Op.equalIn d t a b
   if(!r)=true then pure false else zH d xs ys fs
 |(false,_,_)::fs=>zH d xs ys fs
theorem zh(d:Nat)(xs ys:Array Value):∀fs:List Field,Op.eqFields d xs ys fs=zH d xs ys (fs.map DG)
 |[]=>rfl
 |f::fs=>by
  simp only[Op.eqFields,List.map_cons,DG]
  rw[zh d xs ys fs]
  by_cases h:f.name= "_"
  ·simp[h,zH]
  ·have hb:(f.name != "_")=true:=by simp[h]
   rw[hb,if_pos h];rfl
theorem bX.KT{P:Program}{t:TypeId}{xs ys:Array Value}{fs:List (Bool×TypeId×Nat)}{r:Bool}(h1:P.eqGuardType P.depth t=false)(h2:P.underlying t=some (.struct (P.fieldsOf t)))(h3:P.stoodInHeld t=false)
  (h4:(P.fieldsOf t).toList.map DG=fs) (h5:∀w,(zH 9999 xs ys fs).run P w= .ok r w):bX P .eql t (.agg xs) (.agg ys) (.bool r)∧bX P .neq t (.agg xs) (.agg ys) (.bool !r):=by
 refine⟨fun x y w=>?_,fun x y w=>?_⟩
 ·rw[Sem.run_bind,run_eqGuard_agg _ _ _ _ _ _ _ h1]
  simp only[Result.andThen_ok,run_eql_struct]
  rw[run_equalIn_struct w 9999 t _ _ h2 h3,zh,h4,h5]
  rfl
 ·rw[Sem.run_bind,run_eqGuard_agg _ _ _ _ _ _ _ h1]
  simp only[Result.andThen_ok,run_neq_struct]
  rw[run_equalIn_struct w 9999 t _ _ h2 h3,zh,h4,h5]
  rfl
theorem bX.inj{P:Program}{op:BinOp}{t:TypeId}{u v r r':Value}(h:bX P op t u v r)(h':bX P op t u v r'):r=r':=by
 have h1:=h (.const .nilIface) (.const .nilIface) default
 rw[h' (.const .nilIface) (.const .nilIface) default]at h1
 cases h1;rfl
theorem wz{P:Program}{op:BinOp}{t:TypeId}{xs ys:Array Value}{r:Value}(h:bX P op t (.agg xs) (.agg ys) r)(K:Value→Prop):cF P op t (.agg xs) (.agg ys) K=K r:=by
 have:cF P op t (.agg xs) (.agg ys) K=∃r,bX P op t (.agg xs) (.agg ys) r∧K r:=by unfold cF;rfl
 rw[this]
 exact propext ⟨fun⟨r',h',k⟩=>by rw[h.inj h'];exact k,fun k=>⟨r,h,k⟩⟩
section
variable {P:Program} {w:World} {d:Nat} {t:TypeId} {off:Nat} {xs ys:Array Value} {fs:List (Bool×TypeId×Nat)} {r:Bool}
theorem dE(hg:fJ P t=some false){v:Value}(h:xs[off]?=some v):(part t xs off).run P w= .ok v w:=by
 unfold part
 rw[Sem.run_bind,fJ.run hg]
 simp[h]
theorem uy{a b:Value}{q:Bool}(ha:(part t xs off).run P w= .ok a w)(hb:(part t ys off).run P w= .ok b w)(he:(Op.equalIn d t a b).run P w= .ok q w)(hr:(zH d xs ys fs).run P w= .ok r w):(zH d xs ys ((true,t,off)::fs)).run P w= .ok (q&&r) w:=by
 simp only[zH,Sem.run_bind,ha,hb,he,Result.andThen_ok]
 cases q
 ·simp
 ·simpa using hr
theorem Fe:(zH d xs ys []).run P w= .ok true w:=rfl
theorem zL{k:IntKind}{a b:Int}(hu:UK P t=some k)(hg:fJ P t=some false)(ha:xs[off]?=some (.int k a))(hb:ys[off]?=some (.int k b))(hr:(zH (d+1) xs ys fs).run P w= .ok r w):(zH (d+1) xs ys ((true,t,off)::fs)).run P w= .ok ((a==b)&&r) w:=
 uy (dE hg ha) (dE hg hb) (run_equalIn_int w d t k k a b (UK.get hu)) hr
theorem Fl{a b:ByteArray}(hu:P.underlying t=some .string)(hg:fJ P t=some false)(ha:xs[off]?=some (.string a))(hb:ys[off]?=some (.string b))(hr:(zH (d+1) xs ys fs).run P w= .ok r w):(zH (d+1) xs ys ((true,t,off)::fs)).run P w= .ok ((a.toList==b.toList)&&r) w:=
 uy (dE hg ha) (dE hg hb) (run_equalIn_string w d t a b hu) hr
end
end Go.Proofs.YtmbagpfmfiegkaaGreatAw
namespace Go.Proofs.YtmbagpfmfiegkaaGreat
open Go.Proofs.YtmbagpfmfiegkaaGreatAw Go.RowKit
def my(k i:Int)(s:ByteArray)(k' i':Int)(s':ByteArray):Bool:=(k==k')&&((i==i')&&((s.toList==s'.toList)&&true))
theorem E4(w:World)(d:Nat)(k i:Int)(s:ByteArray)(k' i':Int)(s':ByteArray):(zH (d+1) #[.int .i64 k,.int .i64 i,.string s] #[.int .i64 k',.int .i64 i',.string s'] [(true,3,0),(true,2,1),(true,9,2)]).run Tryz.prog w= .ok (my k i s k' i' s') w:=
 zL K.KI K.Gt rfl rfl (zL K.KB K.I1 rfl rfl (Fl K.KH K.HS rfl rfl Fe))
theorem G4(k i:Int)(s:ByteArray)(k' i':Int)(s':ByteArray):bX Tryz.prog .eql 25 (.agg #[.int .i64 k,.int .i64 i,.string s]) (.agg #[.int .i64 k',.int .i64 i',.string s']) (.bool (my k i s k' i' s'))∧
  bX Tryz.prog .neq 25 (.agg #[.int .i64 k,.int .i64 i,.string s]) (.agg #[.int .i64 k',.int .i64 i',.string s']) (.bool !(my k i s k' i' s')):=
 bX.KT (by kernel_rfl) (by kernel_rfl) (by kernel_rfl) (by kernel_rfl) fun w=>E4 w 9998 k i s k' i' s'
theorem xW(k i:Int)(s:ByteArray)(k' i':Int)(s':ByteArray)(K:Value→Prop):cF Tryz.prog .eql 25 (.agg #[.int .i64 k,.int .i64 i,.string s]) (.agg #[.int .i64 k',.int .i64 i',.string s']) K=K (.bool (my k i s k' i' s')):=wz (G4 ..).1 K
attribute [go_sem] xW
structure ai where
 kind:Int
 i:Int
 s:ByteArray
deriving DecidableEq
structure Atom where
 Kn:Int
 op:Int
 val:ai
deriving DecidableEq
def ai.enc(v:ai):List D:=[.v (.int .i64 v.kind),.v (.int .i64 v.i),.v (.string v.s)]
def Atom.enc(a:Atom):List D:=[.v (.int .i64 a.Kn),.v (.int .i64 a.op),.v (.int .i64 a.val.kind),.v (.int .i64 a.val.i),.v (.string a.val.s)]
theorem toList_inj{a b:ByteArray}(h:a.toList=b.toList):a=b:=by
 rw[ByteArray.toList_eq,ByteArray.toList_eq]at h
 obtain⟨⟨x⟩⟩:=a
 obtain⟨⟨y⟩⟩:=b
 simp_all
theorem ky(v w:ai):my v.kind v.i v.s w.kind w.i w.s=decide (v=w):=by
 cases v with|mk k i s=>
 cases w with|mk k' i' s'=>
 rw[Bool.eq_iff_iff]
 simp only[my,Bool.and_true,Bool.and_eq_true,beq_iff_eq,decide_eq_true_eq,ai.mk.injEq]
 exact⟨fun⟨a,b,c⟩=>⟨a,b,toList_inj c⟩,fun⟨a,b,c⟩=>⟨a,b,by rw[c]⟩⟩
abbrev du(n:Nat):AV:= .d (.v (.int .u64 n))
theorem qz.closed{H:aa}{φ:aN}{N:Addr→Prop}{w:World}{vals:Array Value}(vs:List Value)(h:qz H φ N w (vs.map fun v=> .d (.v v)) vals):vals=vs.toArray:=by
 obtain⟨hl,hh⟩:=h
 simp only[List.length_map]at hl
 apply Array.ext
 ·simpa using hl.symm
 ·intro i h1 h2
  have:=hh i (by simpa using h2) h1
  simp only[List.getElem_map]at this
  simpa using this.closed
def gm(less more:Bool):Int:=if less then -1 else if more then 1 else 0
def ga(a b:Int):Int:=gm (decide (a<b)) (decide (b<a))
def lz(a b:ByteArray):Bool:=Op.bytesLess a.toList b.toList
def nj(a b:ByteArray):Int:=gm (lz a b) (!(lz a b||a.toList==b.toList))
def EE(b:Nat):Bool:=decide (9218868437227405312<b%9223372036854775808)
def db(b:Nat):Nat:=if EE b then 9221120237041090560 else b
def eo(b:Nat):Nat:=if 9223372036854775808≤db b then 18446744073709551615-db b else db b+9223372036854775808
def jk(n:Int):Nat:=(n%18446744073709551616).toNat
def An(a b:Nat):Int:=gm (decide (eo a<eo b)) (decide (eo b<eo a))
def aO(a b:ai):Int:=if a.kind≠b.kind then ga a.kind b.kind else if a.kind=1 then ga a.i b.i else if a.kind=2 then An (jk a.i) (jk b.i)else if a.kind=3 then nj a.s b.s else 0
theorem km(n:Int):jk n<18446744073709551616:=by unfold jk;omega
theorem pt(n:Int):IntKind.u64.wrap n=((jk n:Nat):Int):=by
 unfold jk
 rw[Int.toNat_of_nonneg (Int.emod_nonneg _ (by omega))]
 simp[IntKind.wrap,IntKind.signed,IntKind.bits]
theorem kQ(b:Nat)(h:b<18446744073709551616):db b<18446744073709551616:=by unfold db;split<;>omega
theorem z8(b:Nat)(h:b<18446744073709551616):eo b<18446744073709551616:=by
 have:=kQ b h
 unfold eo;split<;>omega
theorem jW(a:Int)(H:aa):ag Tryz.prog 144 [iA a] H (.ok (bA false)) H:=by
 refine ag.aj (hint:=(fun _=>false)) Tryz.func144 (by kernel_rfl) rfl [2] (by kernel_rfl) (by decide) (by simp[Tryz.ntmps144]) ?_
 rw[Tryz.ntmps144]
 simp -implicitDefEqProofs only[↓reduceIte,go_sem,Nat.reduceLT,Nat.reduceEqDiff,reduceCtorEq,eq_self]
 refine aw.bq ?_
 simp -implicitDefEqProofs only[↓reduceIte,go_sem,Nat.reduceLT,eq_self]
theorem iT(a:Int)(H:aa):ag Tryz.prog 145 [iA a] H (.ok (bA false)) H:=by
 refine ag.aj (hint:=(fun _=>false)) Tryz.func145 (by kernel_rfl) rfl [2] (by kernel_rfl) (by decide) (by simp[Tryz.ntmps145]) ?_
 rw[Tryz.ntmps145]
 simp -implicitDefEqProofs only[↓reduceIte,go_sem,Nat.reduceLT,Nat.reduceEqDiff,reduceCtorEq,eq_self]
 refine aw.bq ?_
 simp -implicitDefEqProofs only[↓reduceIte,go_sem,Nat.reduceLT,eq_self]
theorem ig(a:ByteArray)(H:aa):ag Tryz.prog 146 [sA a] H (.ok (bA false)) H:=by
 refine ag.aj (hint:=(fun _=>false)) Tryz.func146 (by kernel_rfl) rfl [2] (by kernel_rfl) (by decide) (by simp[Tryz.ntmps146]) ?_
 rw[Tryz.ntmps146]
 simp -implicitDefEqProofs only[↓reduceIte,go_sem,Nat.reduceLT,Nat.reduceEqDiff,reduceCtorEq,eq_self]
 refine aw.bq ?_
 simp -implicitDefEqProofs only[↓reduceIte,go_sem,Nat.reduceLT,eq_self]
theorem sg(a b:Int)(H:aa):ag Tryz.prog 104 [iA a,iA b] H (.ok (iA (ga a b))) H:=by
 refine ag.aj (hint:=(fun _=>false)) Tryz.func104 (by kernel_rfl) rfl [4] (by kernel_rfl) (by decide) (by simp[Tryz.ntmps104]) ?_
 rw[Tryz.ntmps104]
 simp -implicitDefEqProofs only[↓reduceIte,go_sem,Nat.reduceLT,Int.reduceNeg,reduceCtorEq,eq_self]
 refine ab.ok (jW a H) ?_
 simp -implicitDefEqProofs only[↓reduceIte,go_sem,Nat.reduceLT,Nat.reduceEqDiff,Int.reduceNeg,eq_self]
 refine ab.ok (jW b H) ?_
 simp -implicitDefEqProofs only[↓reduceIte,go_sem,Nat.reduceLT,Nat.reduceEqDiff,Int.reduceNeg,reduceCtorEq,eq_self]
 by_cases h:a<b
 ·refine iP (by simp -implicitDefEqProofs only[go_sem,eq_self,h]) ?_
  simp -implicitDefEqProofs only[go_sem,Int.reduceNeg]
  refine aw.bq ?_
  simp -implicitDefEqProofs only[↓reduceIte,go_sem,Nat.reduceLT,Int.reduceNeg,eq_self,ga,gm,h]
 ·refine iO (by simp -implicitDefEqProofs only[go_sem,eq_self,h]) ?_
  simp -implicitDefEqProofs only[↓reduceIte,go_sem,Nat.reduceLT,Nat.reduceEqDiff,reduceCtorEq,eq_self]
  by_cases h2:b<a
  ·refine iP (by simp -implicitDefEqProofs only[go_sem,eq_self,h2]) ?_
   simp -implicitDefEqProofs only[go_sem]
   refine aw.bq ?_
   simp -implicitDefEqProofs only[↓reduceIte,go_sem,Nat.reduceLT,reduceCtorEq,eq_self,ga,gm,h,h2]
  ·refine iO (by simp -implicitDefEqProofs only[go_sem,eq_self,h2]) ?_
   simp -implicitDefEqProofs only[go_sem]
   refine aw.bq ?_
   simp -implicitDefEqProofs only[↓reduceIte,go_sem,Nat.reduceLT,reduceCtorEq,eq_self,ga,gm,h,h2]
theorem p4(a b:Int)(H:aa):ag Tryz.prog 105 [iA a,iA b] H (.ok (iA (ga a b))) H:=by
 refine ag.aj (hint:=(fun _=>false)) Tryz.func105 (by kernel_rfl) rfl [4] (by kernel_rfl) (by decide) (by simp[Tryz.ntmps105]) ?_
 rw[Tryz.ntmps105]
 simp -implicitDefEqProofs only[↓reduceIte,go_sem,Nat.reduceLT,Int.reduceNeg,reduceCtorEq,eq_self]
 refine ab.ok (iT a H) ?_
 simp -implicitDefEqProofs only[↓reduceIte,go_sem,Nat.reduceLT,Nat.reduceEqDiff,Int.reduceNeg,eq_self]
 refine ab.ok (iT b H) ?_
 simp -implicitDefEqProofs only[↓reduceIte,go_sem,Nat.reduceLT,Nat.reduceEqDiff,Int.reduceNeg,reduceCtorEq,eq_self]
 by_cases h:a<b
 ·refine iP (by simp -implicitDefEqProofs only[go_sem,eq_self,h]) ?_
  simp -implicitDefEqProofs only[go_sem,Int.reduceNeg]
  refine aw.bq ?_
  simp -implicitDefEqProofs only[↓reduceIte,go_sem,Nat.reduceLT,Int.reduceNeg,eq_self,ga,gm,h]
 ·refine iO (by simp -implicitDefEqProofs only[go_sem,eq_self,h]) ?_
  simp -implicitDefEqProofs only[↓reduceIte,go_sem,Nat.reduceLT,Nat.reduceEqDiff,reduceCtorEq,eq_self]
  by_cases h2:b<a
  ·refine iP (by simp -implicitDefEqProofs only[go_sem,eq_self,h2]) ?_
   simp -implicitDefEqProofs only[go_sem]
   refine aw.bq ?_
   simp -implicitDefEqProofs only[↓reduceIte,go_sem,Nat.reduceLT,reduceCtorEq,eq_self,ga,gm,h,h2]
  ·refine iO (by simp -implicitDefEqProofs only[go_sem,eq_self,h2]) ?_
   simp -implicitDefEqProofs only[go_sem]
   refine aw.bq ?_
   simp -implicitDefEqProofs only[↓reduceIte,go_sem,Nat.reduceLT,reduceCtorEq,eq_self,ga,gm,h,h2]
theorem ow(a b:ByteArray)(H:aa):ag Tryz.prog 107 [sA a,sA b] H (.ok (iA (nj a b))) H:=by
 refine ag.aj (hint:=(fun _=>false)) Tryz.func107 (by kernel_rfl) rfl [4] (by kernel_rfl) (by decide) (by simp[Tryz.ntmps107]) ?_
 rw[Tryz.ntmps107]
 simp -implicitDefEqProofs only[↓reduceIte,go_sem,Nat.reduceLT,Int.reduceNeg,reduceCtorEq,eq_self]
 refine ab.ok (ig a H) ?_
 simp -implicitDefEqProofs only[↓reduceIte,go_sem,Nat.reduceLT,Nat.reduceEqDiff,Int.reduceNeg,eq_self]
 refine ab.ok (ig b H) ?_
 simp -implicitDefEqProofs only[↓reduceIte,go_sem,Nat.reduceLT,Nat.reduceEqDiff,Int.reduceNeg,reduceCtorEq,eq_self]
 cases h:Op.bytesLess a.toList b.toList with
 |true=>
  refine iP (by simp -implicitDefEqProofs only[go_sem,eq_self]) ?_
  simp -implicitDefEqProofs only[go_sem,Int.reduceNeg]
  refine aw.bq ?_
  simp -implicitDefEqProofs only[↓reduceIte,go_sem,Nat.reduceLT,Int.reduceNeg,eq_self,nj,gm,lz,h]
 |false=>
  refine iO (by simp -implicitDefEqProofs only[go_sem,eq_self]) ?_
  simp -implicitDefEqProofs only[↓reduceIte,go_sem,Nat.reduceLT,Nat.reduceEqDiff,reduceCtorEq,eq_self,h]
  cases h2:(a.toList==b.toList)with
  |false=>
   refine iP (by simp -implicitDefEqProofs only[go_sem,eq_self]) ?_
   simp -implicitDefEqProofs only[go_sem]
   refine aw.bq ?_
   simp -implicitDefEqProofs only[↓reduceIte,go_sem,Nat.reduceLT,reduceCtorEq,eq_self,nj,gm,lz,h,h2]
  |true=>
   refine iO (by simp -implicitDefEqProofs only[go_sem,eq_self]) ?_
   simp -implicitDefEqProofs only[go_sem]
   refine aw.bq ?_
   simp -implicitDefEqProofs only[↓reduceIte,go_sem,Nat.reduceLT,reduceCtorEq,eq_self,nj,gm,lz,h,h2]
theorem xQ(b:Nat)(hb:b<18446744073709551616):(FloatKind.f64.format.order b b !=some .eq)=EE b:=by
 have key:∀d:Ieee.Datum,(d.order d !=some .eq)=d.isNaN:=by
  intro d
  cases d with
  |nan s f=>rfl
  |infinity s=>simp[Ieee.Datum.order,Ieee.Datum.isNaN]
  |number s m i=>simp[Ieee.Datum.order,Ieee.Datum.isNaN]
 have h1:(FloatKind.f64.format.order b b !=some .eq)=(FloatKind.f64.format.read b).isNaN:=key _
 rw[h1]
 have hs:FloatKind.f64.format.signWeight=9223372036854775808:=by decide
 have hb':FloatKind.f64.format.binade=4503599627370496:=by decide
 have hi:FloatKind.f64.format.infRung=9218868437227405312:=by decide
 unfold Ieee.Format.read EE
 rw[hs,hb',hi]
 generalize b%9223372036854775808=r
 by_cases h1:r<4503599627370496
 ·simp only[h1,if_true,Ieee.Datum.isNaN];simp;omega
 ·by_cases h2:r<9218868437227405312
  ·simp only[h1,h2,if_true,if_false,Ieee.Datum.isNaN];simp;omega
  ·by_cases h3:r=9218868437227405312
   ·subst h3;simp[Ieee.Datum.isNaN]
   ·simp only[h1,h2,h3,if_false,Ieee.Datum.isNaN];simp;omega
def qC:Array Value→Sem Value:=Extern.MathFloatBits.float64frombits
theorem qG(n:Nat)(H:aa):ag Tryz.prog 143 [du n] H (.ok (.d (.v (.float .f64 n)))) H:=by
 intro φ N w vals hR hA
 have hv:=qz.closed [.int .u64 (n:Int)] hA
 subst hv
 refine .inr ⟨.float .f64 n,w,?_,φ,N,hR,au.refl,.d (.v _ rfl)⟩
 rw[run_callFunc_extern (e:=qC) Tryz.func143 (by kernel_rfl) (by kernel_rfl) (by kernel_rfl) (by kernel_rfl)]
 rfl
theorem ic(b:Nat)(hb:b<18446744073709551616)(H:aa):ag Tryz.prog 102 [du b] H (.ok (du (db b))) H:=by
 refine ag.aj (hint:=(fun _=>false)) Tryz.func102 (by kernel_rfl) rfl [2] (by kernel_rfl) (by decide) (by simp[Tryz.ntmps102]) ?_
 rw[Tryz.ntmps102]
 simp -implicitDefEqProofs only[↓reduceIte,go_sem,Nat.reduceLT,reduceCtorEq,eq_self]
 refine ab.ok (qG b H) ?_
 simp -implicitDefEqProofs only[↓reduceIte,go_sem,Nat.reduceLT,Nat.reduceEqDiff,eq_self,xQ b hb]
 cases h:EE b with
 |true=>
  refine iP (by simp -implicitDefEqProofs only[go_sem,eq_self]) ?_
  simp -implicitDefEqProofs only[go_sem]
  refine aw.bq ?_
  simp -implicitDefEqProofs only[↓reduceIte,go_sem,Nat.reduceLT,eq_self,db,h,du]
 |false=>
  refine iO (by simp -implicitDefEqProofs only[go_sem,eq_self]) ?_
  simp -implicitDefEqProofs only[↓reduceIte,go_sem,Nat.reduceLT,reduceCtorEq,eq_self]
  refine aw.bq ?_
  simp -implicitDefEqProofs only[↓reduceIte,go_sem,Nat.reduceLT,eq_self,db,h,Bool.false_eq_true]
theorem Il(c:Nat)(h:c<9223372036854775808):IntKind.u64.wrap (Gb .u64 (c:Int) 9223372036854775808)=((c+9223372036854775808:Nat):Int):=by
 have e:=bits_or_u64_nat c 9223372036854775808 (by omega) (by omega)
 have:c|||9223372036854775808=c+9223372036854775808:=by
  have:=Nat.two_pow_add_eq_or_of_lt (i:=63) (b:=c) (by omega) 1
  rw[Nat.or_comm]
  simpa[Nat.add_comm]using this.symm
 rw[this]at e
 exact e
theorem Im(c:Nat)(h:c<18446744073709551616):IntKind.u64.wrap (Dy .u64 (c:Int))=((18446744073709551615-c:Nat):Int):=by
 have e:=bits_xor_u64_nat 18446744073709551615 c (by omega) h
 have:18446744073709551615^^^c=18446744073709551615-c:=by
  rw[Nat.xor_comm]
  have:=Nat.testBit_two_pow_sub_succ (x:=c) (n:=64) h
  apply Nat.eq_of_testBit_eq
  intro i
  rw[Nat.testBit_xor]
  have h2:=this i
  rw[show 2^64-(c+1)=18446744073709551615-c from by omega]at h2
  rw[h2]
  have h3:(18446744073709551615:Nat).testBit i=decide (i<64):=by
   have:=Nat.testBit_two_pow_sub_one 64 i
   simpa using this
  rw[h3]
  by_cases hi:i<64
  ·simp[hi]
  ·have h5:2^64≤2^i:=Nat.pow_le_pow_right (by omega) (by omega)
   have:c.testBit i=false:=Nat.testBit_lt_two_pow (by omega)
   simp[hi,this]
 rw[this]at e
 exact e
theorem iQ(b:Nat)(hb:b<18446744073709551616)(H:aa):ag Tryz.prog 65 [du b] H (.ok (du (eo b))) H:=by
 have hc:=kQ b hb
 have k1:=ic b hb H
 unfold eo
 generalize db b=c at hc k1⊢
 refine ag.aj (hint:=(fun _=>false)) Tryz.func65 (by kernel_rfl) rfl [2] (by kernel_rfl) (by decide) (by simp[Tryz.ntmps65]) ?_
 rw[Tryz.ntmps65]
 simp -implicitDefEqProofs only[↓reduceIte,go_sem,Nat.reduceLT,reduceCtorEq,eq_self]
 refine ab.ok k1 ?_
 simp -implicitDefEqProofs only[↓reduceIte,go_sem,Nat.reduceLT,eq_self]
 by_cases h:9223372036854775808≤c
 ·simp -implicitDefEqProofs only[↓reduceIte,go_sem,Nat.reduceLT,reduceCtorEq,eq_self,show(9223372036854775808:Int)≤c from by omega,Im c hc]
  refine aw.bq ?_
  simp -implicitDefEqProofs only[↓reduceIte,go_sem,Nat.reduceLT,eq_self,h,du]
 ·simp -implicitDefEqProofs only[↓reduceIte,go_sem,Nat.reduceLT,reduceCtorEq,eq_self,show ¬(9223372036854775808:Int)≤c from by omega,Il c (by omega)]
  refine aw.bq ?_
  simp -implicitDefEqProofs only[↓reduceIte,go_sem,Nat.reduceLT,eq_self,h,du]
theorem Bl(a b:Nat)(ha:a<18446744073709551616)(hb:b<18446744073709551616)(H:aa):ag Tryz.prog 106 [du a,du b] H (.ok (iA (An a b))) H:=by
 have k1:=iQ a ha H
 have k2:=iQ b hb H
 unfold An
 generalize eo a=x at k1⊢
 generalize eo b=y at k2⊢
 refine ag.aj (hint:=(fun _=>false)) Tryz.func106 (by kernel_rfl) rfl [4] (by kernel_rfl) (by decide) (by simp[Tryz.ntmps106]) ?_
 rw[Tryz.ntmps106]
 simp -implicitDefEqProofs only[↓reduceIte,go_sem,Nat.reduceLT,Int.reduceNeg,reduceCtorEq,eq_self]
 refine ab.ok k1 ?_
 simp -implicitDefEqProofs only[↓reduceIte,go_sem,Nat.reduceLT,Nat.reduceEqDiff,eq_self]
 refine ab.ok k2 ?_
 simp -implicitDefEqProofs only[↓reduceIte,go_sem,Nat.reduceLT,Nat.reduceEqDiff,Int.reduceNeg,eq_self]
 by_cases h:x<y
 ·refine iP (by simp -implicitDefEqProofs only[go_sem,eq_self,h]) ?_
  simp -implicitDefEqProofs only[go_sem,Int.reduceNeg]
  refine aw.bq ?_
  simp -implicitDefEqProofs only[↓reduceIte,go_sem,Nat.reduceLT,Int.reduceNeg,eq_self,gm,h]
 ·refine iO (by simp -implicitDefEqProofs only[go_sem,eq_self,h]) ?_
  simp -implicitDefEqProofs only[↓reduceIte,go_sem,Nat.reduceLT,Nat.reduceEqDiff,eq_self]
  by_cases h2:y<x
  ·refine iP (by simp -implicitDefEqProofs only[go_sem,eq_self,h2]) ?_
   simp -implicitDefEqProofs only[go_sem]
   refine aw.bq ?_
   simp -implicitDefEqProofs only[↓reduceIte,go_sem,Nat.reduceLT,reduceCtorEq,eq_self,gm,h,h2]
  ·refine iO (by simp -implicitDefEqProofs only[go_sem,eq_self,h2]) ?_
   simp -implicitDefEqProofs only[go_sem]
   refine aw.bq ?_
   simp -implicitDefEqProofs only[↓reduceIte,go_sem,Nat.reduceLT,reduceCtorEq,eq_self,gm,h,h2]
abbrev ai.av(v:ai):AV:= .agg [iA v.kind,iA v.i,sA v.s]
theorem dI(a b:ai)(H:aa):ag Tryz.prog 63 [a.av,b.av] H (.ok (iA (aO a b))) H:=by
 unfold aO
 refine ag.aj (hint:=(fun _=>false)) Tryz.func63 (by kernel_rfl) rfl [4] (by kernel_rfl) (by decide) (by simp[Tryz.ntmps63]) ?_
 rw[Tryz.ntmps63]
 simp -implicitDefEqProofs only[↓reduceIte,go_sem,ah,Nat.reduceAdd,Nat.reduceLT,Nat.reduceLeDiff,Nat.reduceEqDiff,eq_self]
 by_cases h:a.kind=b.kind
 ·refine iO (by simp -implicitDefEqProofs only[go_sem,eq_self,h]) ?_
  simp -implicitDefEqProofs only[↓reduceIte,go_sem,ah,Nat.reduceAdd,Nat.reduceLT,Nat.reduceLeDiff,Nat.reduceEqDiff,eq_self]
  by_cases h1:a.kind=1
  ·refine iP (by simp -implicitDefEqProofs only[go_sem,eq_self,h1]) ?_
   simp -implicitDefEqProofs only[↓reduceIte,go_sem,ah,Nat.reduceAdd,Nat.reduceLT,Nat.reduceLeDiff,Nat.reduceEqDiff,eq_self]
   refine ab.ok (p4 _ _ _) ?_
   simp -implicitDefEqProofs only[↓reduceIte,go_sem,Nat.reduceLT,eq_self]
   refine aw.ret ?_
   simp -implicitDefEqProofs only[↓reduceIte,go_sem,Nat.reduceLT,eq_self,h1,←h]
  ·refine iO (by simp -implicitDefEqProofs only[go_sem,eq_self,h1]) ?_
   simp -implicitDefEqProofs only[↓reduceIte,go_sem,Nat.reduceLT,Nat.reduceEqDiff,eq_self]
   by_cases h2:a.kind=2
   ·refine iP (by simp -implicitDefEqProofs only[go_sem,eq_self,h2]) ?_
    simp -implicitDefEqProofs only[↓reduceIte,go_sem,ah,Nat.reduceAdd,Nat.reduceLT,Nat.reduceLeDiff,Nat.reduceEqDiff,eq_self,pt]
    refine ab.ok (Bl _ _ (km _) (km _) _) ?_
    simp -implicitDefEqProofs only[↓reduceIte,go_sem,Nat.reduceLT,eq_self]
    refine aw.ret ?_
    simp -implicitDefEqProofs only[↓reduceIte,go_sem,Nat.reduceLT,Int.reduceEq,eq_self,h2,←h]
   ·refine iO (by simp -implicitDefEqProofs only[go_sem,eq_self,h2]) ?_
    simp -implicitDefEqProofs only[↓reduceIte,go_sem,Nat.reduceLT,Nat.reduceEqDiff,eq_self]
    by_cases h3:a.kind=3
    ·refine iP (by simp -implicitDefEqProofs only[go_sem,eq_self,h3]) ?_
     simp -implicitDefEqProofs only[↓reduceIte,go_sem,ah,Nat.reduceAdd,Nat.reduceLT,Nat.reduceEqDiff,eq_self]
     refine ab.ok (ow _ _ _) ?_
     simp -implicitDefEqProofs only[↓reduceIte,go_sem,Nat.reduceLT,eq_self]
     refine aw.ret ?_
     simp -implicitDefEqProofs only[↓reduceIte,go_sem,Nat.reduceLT,Int.reduceEq,eq_self,h3,←h]
    ·refine iO (by simp -implicitDefEqProofs only[go_sem,eq_self,h3]) ?_
     simp -implicitDefEqProofs only[go_sem]
     refine aw.ret ?_
     simp -implicitDefEqProofs only[↓reduceIte,go_sem,Nat.reduceLT,eq_self,h1,h2,h3,←h]
 ·refine iP (by simp -implicitDefEqProofs only[go_sem,eq_self,h]) ?_
  simp -implicitDefEqProofs only[↓reduceIte,go_sem,ah,Nat.reduceAdd,Nat.reduceLT,Nat.reduceLeDiff,Nat.reduceEqDiff,eq_self]
  refine ab.ok (sg _ _ _) ?_
  simp -implicitDefEqProofs only[↓reduceIte,go_sem,Nat.reduceLT,eq_self]
  refine aw.ret ?_
  simp -implicitDefEqProofs only[↓reduceIte,go_sem,Nat.reduceLT,eq_self,h]
end Go.Proofs.YtmbagpfmfiegkaaGreat
namespace Go.Proofs.YtmbagpfmfiegkaaGreatAw
open Go.RowKit
def bH(P:Program)(H:aa)(s:Nat→AV):ResultVar→Option AV
 | .tmp t=>some (s t)
 | .cell a t=>(fJ P t).bind fun b=>if b=true then(TI P t).bind fun z=>(eH H z.2.1 (s a)).map .agg else Jv (eH H 1 (s a))
def aK(P:Program)(H:aa)(s:Nat→AV):List ResultVar→Option (List AV)
 |[]=>some []
 |r::rs=>(bH P H s r).bind fun x=>(aK P H s rs).map (x::·)
def bp(P:Program)(rs:List ResultVar)(H0:aa)(res:jQ)(H':aa):aP:=fun e s H=>
 match e with
 | .normal| .ret=>∃avs s',aK P H s rs=some avs∧ar H0 (fun t=>avs.getD t .top) H s' H'∧res= .ok (iz (List.range avs.length) s')
 | .panic v=>∃s',ar H0 s H s' H'∧res= .panic v
 |_=>False
section
variable {P:Program} {H:aa} {φ:aN} {N:Addr→Prop} {w:World} {s:Nat→AV} {a:Act}
theorem uJ(hR:Rel H φ N w){x:AV}{v:Value}(hx:RA H φ N w x v){t:TypeId}(hg:fJ P t=some true){z:Value}{k b:Nat}(hi:TI P t=some (z,k,b)){cs:List AV}(h:eH H k x=some cs):
  ∃ad u,v= .pointer (some ad)∧(loadVar t ad).run P w= .ok u w∧RA H φ N w (.agg cs) u:=by
 obtain⟨hl,ad,hv,hh⟩:=mc hR hx h
 let f:Nat→Value:=fun t=>if ht:t<cs.length then(hh t ht).choose else undef
 have hf:∀t (ht:t<cs.length),w.cell? (ad.add t)=some (f t)∧RA H φ N w (cs[t]) (f t):=fun t ht=>by
  simp only[f,ht,dif_pos];exact(hh t ht).choose_spec
 have hrun:=run_loadCells (P:=P) w ad k f fun j hj=>(hf j (by omega)).1
 refine⟨ad,.agg ((List.range k).map f).toArray,hv,?_,.agg _ _ (by simp[hl]) fun i h1 h2=>?_⟩
 ·simp only[loadVar,Sem.run_bind,fJ.run hg,Result.andThen_ok,if_true,TI.sizeOf hi,hrun,Sem.run_pure]
 ·simp only[List.getElem_toArray,List.getElem_map,List.getElem_range]
  exact(hf i h1).2
theorem wk(hR:Rel H φ N w){x:AV}{v:Value}(hx:RA H φ N w x v){t:TypeId}(hg:fJ P t=some false){c:AV}(h:eH H 1 x=some [c]):
  ∃ad u,v= .pointer (some ad)∧(loadVar t ad).run P w= .ok u w∧RA H φ N w c u:=by
 obtain⟨hl,ad,hv,hh⟩:=mc hR hx h
 obtain⟨u,hu,hr⟩:=hh 0 (by simp)
 have hu':w.cell? ad=some u:=by simpa[Addr.add]using hu
 exact⟨ad,u,hv,by simp only[loadVar,Sem.run_bind,fJ.run hg,Result.andThen_ok,Bool.false_eq_true,if_false,run_load,hu'],hr⟩
theorem Dm(hR:Rel H φ N w)(hT:bZ H φ N w s a){r:ResultVar}{x:AV}(h:bH P H s r=some x):
  ∃u,(match r with| .tmp t=>pure (a.tmps.getD t undef)| .cell b t=>do loadVar t (←asAddr (a.tmps.getD b undef)):Sem Value).run P w= .ok u w∧RA H φ N w x u:=by
 cases r with
 |tmp t=>cases h;exact⟨_,rfl,hT t⟩
 |cell b t=>
  simp only[bH]at h
  obtain⟨g,hg,h⟩:=Option.bind_eq_some_iff.1 h
  cases g with
  |true=>
   rw[if_pos rfl]at h
   obtain⟨⟨z,k,bb⟩,hz,h⟩:=Option.bind_eq_some_iff.1 h
   obtain⟨cs,hc,rfl⟩:=Option.map_eq_some_iff.1 h
   obtain⟨ad,u,hv,hrun,hu⟩:=uJ hR (hT b) hg hz hc
   exact⟨u,by simp only[hv,Sem.run_bind,asAddr,Sem.run_pure,Result.andThen_ok,hrun],hu⟩
  |false=>
   rw[if_neg (by simp)]at h
   have hc:eH H 1 (s b)=some [x]:=by
    revert h
    cases eH H 1 (s b)with
    |none=>intro h;cases h
    |some l=>rcases l with _|⟨c,_|⟨d,l⟩⟩<;>intro h<;>cases h;rfl
   obtain⟨ad,u,hv,hrun,hu⟩:=wk hR (hT b) hg hc
   exact⟨u,by simp only[hv,Sem.run_bind,asAddr,Sem.run_pure,Result.andThen_ok,hrun],hu⟩
theorem np(hR:Rel H φ N w)(hT:bZ H φ N w s a):∀{rs:List ResultVar} {xs:List AV},aK P H s rs=some xs→
  ∃us:List Value,(rs.mapM fun r=>(match r with| .tmp t=>pure (a.tmps.getD t undef)| .cell b t=>do loadVar t (←asAddr (a.tmps.getD b undef)):Sem Value)).run P w= .ok us w∧xs.length=us.length∧∀i (h1:i<xs.length) (h2:i<us.length),RA H φ N w (xs[i]) (us[i])
 |[],xs,h=>by cases h;exact⟨[],rfl,rfl,fun i h1=>by simp at h1⟩
 |r::rs,xs,h=>by
  simp only[aK]at h
  obtain⟨x,hx,h⟩:=Option.bind_eq_some_iff.1 h
  obtain⟨ys,hy,rfl⟩:=Option.map_eq_some_iff.1 h
  obtain⟨u,hu,ru⟩:=Dm hR hT hx
  obtain⟨us,hus,hl,rus⟩:=np hR hT hy
  refine⟨u::us,?_,by simp[hl],fun i h1 h2=>?_⟩
  ·rw[List.mapM_cons,Sem.run_bind,hu]
   simp only[Result.andThen_ok,Sem.run_bind,hus,Sem.run_pure]
  ·cases i with
   |zero=>exact ru
   |succ i=>simpa using rus i (by simpa using h1) (by simpa using h2)
theorem n8{fn:Func}{us:List Value}{tmps:Array Value}(h:(fn.results.toList.mapM fun r=>(match r with| .tmp t=>pure (tmps.getD t undef)| .cell b t=>do loadVar t (←asAddr (tmps.getD b undef)):Sem Value)).run P w= .ok us w):
  (results fn tmps).run P w= .ok (match us with|[u]=>u|l=> .tuple l.toArray) w:=by
 unfold results
 rw[Sem.run_bind,Array.mapM_eq_mapM_toList,Sem.run_map]
 refine(congrArg (fun r=>(Result.andThen r fun a w'=>Result.ok (List.toArray a) w').andThen fun vs w'=>Sem.run P (pure (if h:vs.size=1 then vs[0]else .tuple vs)) w') (Eq.trans ?_ h)).trans ?_
 ·congr 1
 ·simp only[Result.andThen_ok,Sem.run_pure]
  match us with
  |[]=>rfl
  |[u]=>rfl
  |u::v::l=>simp
theorem rv(l:List Tmp)(h:l.length≠1)(s:Nat→AV):iz l s= .bf (l.map s):=by
 rcases l with _|⟨a,_|⟨b,l⟩⟩
 ·rfl
 ·exact absurd rfl h
 ·rfl
theorem ag.bL{hint:Nat→Bool}{f:FuncId}{fn:Func}{body:Code}(hf:P.funcs[f]?=some fn)(hn:(fn.name== "runtime.NumGoroutine")=false)(hb:fn.body=some body)(rs:List ResultVar)(hr:fn.results.toList=rs)
  {args:List AV} {H:aa} {res:jQ} {H':aa} (ha:args.length≤fn.ntmps) (h:cO P hint fn.ntmps H body (bp P rs H res H') (iY args) H):ag P f args H res H':=by
 intro φ N w vals hR hA
 refine .inl ⟨gq hf hn (by rw[hb];rfl) vals w,jr hf hb ha h hR hA ?_⟩
 intro ax s' H1 φ1 N1 tmps w' hI1 hq
 have fin:(∃avs s'',aK P H1 s' rs=some avs∧ar H (fun t=>avs.getD t .top) H1 s'' H'∧res= .ok (iz (List.range avs.length) s''))→∃v,(results fn tmps).run P w'= .ok v w'∧∃φ' N',Rel H' φ' N' w'∧au H φ N w H' φ' N' w'∧qp H' φ' N' w' res (.returned v):=by
  rintro⟨avs,s'',hav,hW,rfl⟩
  obtain⟨us,hus,hl,hru⟩:=np hI1.rel hI1.tmps hav
  have hI2:Inv H φ N w us.length ⟨true,[]⟩ (fun t=>avs.getD t .top) H1 φ1 N1 {tmps:=us.toArray,defers:=[]} w':=by
   refine⟨hI1.rel,fun t=>?_,hI1.since,by simp,gK.refl⟩
   by_cases ht:t<avs.length
   ·have e1:avs.getD t .top=avs[t]:=by simp[List.getD,ht]
    have e2:(us.toArray:Array Value).getD t undef=us[t]'(by omega):=by
     rw[Array.getD_eq_getD_getElem?];simp[show t<us.length by omega]
    simp only[e1,e2]
    exact hru t ht (by omega)
   ·have e1:avs.getD t .top= .top:=by simp[List.getD,List.getElem?_eq_none (Nat.le_of_not_lt ht)]
    simp only[e1]
    exact .top _
  obtain⟨φ2,N2,hI3⟩:=hW.ok hR hI2
  refine⟨_,n8 (by rw[hr];exact hus),φ2,N2,hI3.rel,hI3.since,?_⟩
  have at_:∀t,RA H' φ2 N2 w' (s'' t) ((us.toArray:Array Value).getD t undef):=hI3.tmps
  show RA H' φ2 N2 w' (iz (List.range avs.length) s'') _
  match us,hl with
  |[],hl=>
   have:avs=[]:=List.eq_nil_of_length_eq_zero hl
   subst this
   exact .bf _ _ rfl fun i h1=>by simp at h1
  |[u],hl=>
   have:avs.length=1:=hl
   rw[this]
   exact at_ 0
  |u::v::l,hl=>
   have e:iz (List.range avs.length) s''= .bf ((List.range avs.length).map s''):=by
    exact rv _ (by simp[hl]) s''
   rw[e]
   refine .bf _ _ (by simp[hl]) fun i h1 h2=>?_
   have:=at_ i
   rw[Array.getD_eq_getD_getElem?]at this
   simp only[List.size_toArray]at h2
   rw[List.getElem?_toArray,List.getElem?_eq_getElem h2]at this
   simpa using this
 cases ax with
 |normal=>exact fin hq
 |ret=>exact fin hq
 |exit i=>exact hq.elim
 |panic v=>
  obtain⟨s'',hW,rfl⟩:=hq
  obtain⟨φ2,N2,hI2⟩:=hW.ok hR hI1
  exact⟨φ2,N2,hI2.rel,hI2.since,rfl⟩
theorem bp.ret{rs:List ResultVar}{H T:aa}{s:Nat→AV}{r:AV}(h:ob (aK P (H++T) s rs) fun avs=>r=iz (List.range avs.length) fun t=>p6 (H++T) H.length (avs.getD t .top)):bp P rs H (.ok r) H .ret s (H++T):=by
 cases e:aK P (H++T) s rs with
 |none=>rw[e]at h;exact h.elim
 |some avs=>
  rw[e]at h
  exact⟨avs,_,e,ar.drop H T _,by rw[show r=_ from h]⟩
end
theorem Rel.freeze{H:aa}{φ:aN}{N:Addr→Prop}{w:World}{id k ver:Nat}{e:TypeId}{es:List (List D)}(hR:Rel H φ N w)(ho:H[id]?=some (.arr e k ver es)):
  ∃φ' N',Rel (H.set id (.arr e k (ver+1) [])) φ' N' w∧au H φ N w (H.set id (.arr e k (ver+1) [])) φ' N' w∧
   ∀off len v,RA H φ N w (.sl id ver off len) v→RA (H.set id (.arr e k (ver+1) [])) φ' N' w (.d (.list false ((es.drop off).take len))) v:=by
 have hid:id<H.length:=ao ho
 have hobj:=hR.obj id _ ho
 cases hobj with
 |arr _ _ _ _ hk hes hbl=>
 let φ':aN:=fun j=>if j=id then none else φ j
 let N':Addr→Prop:=fun a=>N a∨∃B c,φ id=some (B,c)∧a.block=B∧a.spot=none∧a.off<es.length* k
 have hφ:∀j,j≠id→φ' j=φ j:=fun j hj=>if_neg hj
 have hφi:φ' id=none:=if_pos rfl
 have hS:au H φ N w (H.set id (.arr e k (ver+1) [])) φ' N' w:=by
  refine⟨by simp,rfl,rfl,rfl,Nat.le_refl _,fun _ _ _=>rfl,fun j B c hj hp _=>?_,fun _ h=> .inl h,fun j o hj=>?_,fun a h=>?_⟩
  ·by_cases hji:j=id
   ·subst hji;rw[hφi]at hp;cases hp
   ·rw[hφ j hji]at hp
    exact⟨j,c,by simpa using hj,hp⟩
  ·by_cases hji:j=id
   ·subst hji
    rw[ho]at hj;cases hj
    refine⟨.arr e k (ver+1) [],by simp[hid],rfl,Nat.le_succ _,fun h=>?_,fun kk es' h=>by cases h⟩
    simp only[aA.ver]at h
    omega
   ·refine⟨o,by rw[List.getElem?_set_ne (Ne.symm hji)];exact hj,rfl,Nat.le_refl _,fun _=>⟨hφ j hji,Nat.le_refl _⟩,fun kk es' h=>⟨hφ j hji,es',h⟩⟩
  ·rcases h with h|⟨B,c,hp,h,_⟩
   ·exact .inl h
   ·exact .inr (.inr ⟨id,c,hid,by rw[h];exact hp⟩)
 refine⟨φ',N',⟨fun j o hj=>?_,fun i j B c c' hi hj hpi hpj=>?_,fun a ha=>?_,fun a j B c ha hj hp=>?_⟩,hS,fun off len v hv=>?_⟩
 ·by_cases hji:j=id
  ·subst hji
   simp[hid]at hj
   subst hj
   exact .arr e k (ver+1) [] hk (fun c hc=>by simp at hc) (.inl ⟨hφi,rfl⟩)
  ·rw[List.getElem?_set_ne (Ne.symm hji)]at hj
   exact(hR.obj j o hj).dd hR hS (hφ j hji) fun _ _ _=>rfl
 ·have hi':i≠id:=fun h=>by subst h;rw[hφi]at hpi;cases hpi
  have hj':j≠id:=fun h=>by subst h;rw[hφi]at hpj;cases hpj
  rw[hφ i hi']at hpi
  rw[hφ j hj']at hpj
  exact hR.inj i j B c c' (by simpa using hi) (by simpa using hj) hpi hpj
 ·rcases ha with ha|⟨B,c,hB,h1,h2,h3⟩
  ·exact hR.live a ha
  ·rcases hbl with⟨g0,_⟩|⟨B',cap,cur,g1,g2,g3,g4,g5,g6⟩
   ·rw[g0]at hB;cases hB
   ·rw[g1]at hB;cases hB
    have hlt:a.off<cur.size:=by have:=Nat.mul_le_mul_right k g3;omega
    refine⟨cur[a.off],?_⟩
    simp[World.cell?,h1,g2,h2,hlt]
 ·have hj':j≠id:=fun h=>by subst h;rw[hφi]at hp;cases hp
  rw[hφ j hj']at hp
  have hj2:j<H.length:=by simpa using hj
  rcases ha with ha|⟨B0,c0,hB,h1,_⟩
  ·exact hR.apart a j B c ha hj2 hp
  ·intro hab
   have:B0=B:=h1.symm.trans hab
   subst this
   exact hj' (hR.inj j id B0 c c0 hj2 hid hp hB)
 ·cases hv with
  |sl _ _ _ _ A l m' o ho' hv' hp=>
  rw[ho]at ho';cases ho'
  obtain⟨rfl,h1,h2⟩:=hp rfl
  simp only[aA.len]at h1
  by_cases hl0:l=0
  ·subst hl0
   simp only[List.take_zero]
   exact .d (.nil _ _ (by rcases h2 with⟨_,_,_,rfl⟩|⟨B,c,_,_,rfl,_⟩;exact fun _=>rfl;exact fun h=>by cases h))
  rcases h2 with⟨_,h3,_⟩|⟨B,c,h3,h4,rfl,rfl⟩
  ·omega
  rcases hbl with⟨g0,_⟩|⟨B',cap,cur,g1,g2,g3,g4,g5,g6⟩
  ·rw[g0]at h3;cases h3
  have hφ3:=h3
  obtain⟨e1,e2⟩:=Prod.mk.inj (Option.some.inj (g1.symm.trans h3))
  subst e1 e2
  have hel:((es.drop off).take l).length=l:=by simp;omega
  have key:=RD.list (N:=N') (w:=w) false ((es.drop off).take l) ⟨B',off* k,none⟩ (cap-off) k (fun i j=>cur.getD ((off+i)* k+j) undef) (by rw[hel];omega)
   (fun e he=>hes e (List.mem_of_mem_drop (List.mem_of_mem_take he))) (fun i j hi hj=>by
    rw[hel]at hi
    have hlt:(off+i)* k+j<es.length* k:=dg hj (by omega)
    have hlt2:(off+i)* k+j<cur.size:=by have:=Nat.mul_le_mul_right k g3;omega
    have hpos:off* k+(i* k+j)=(off+i)* k+j:=by rw[Nat.add_mul];omega
    rw[add_plain,hpos]
    refine⟨.inr ⟨B',cap,hφ3,rfl,rfl,hlt⟩,?_⟩
    simp[World.cell?,g2,Array.getD,hlt2]) (fun i hi j hj=>by
    rw[hel]at hi
    simp only[List.getElem_take,List.getElem_drop]at hj⊢
    obtain⟨u,hu,hd⟩:=g6 (off+i) (by omega) j hj
    have hget:cur.getD ((off+i)* k+j) undef=u:=by
     rw[Array.getD_eq_getD_getElem?,hu];rfl
    simp only[hget]
    exact hd.since hR hS)
  rw[hel]at key
  exact .d key
theorem ag.freeze{P:Program}{f:FuncId}(pre:List AV){post:List AV}{id k ver off len:Nat}{e:TypeId}{es:List (List D)}{H H':aa}{res:jQ}(ho:H[id]?=some (.arr e k ver es))
  (h:ag P f (pre++ .d (.list false ((es.drop off).take len))::post) (H.set id (.arr e k (ver+1) [])) res H'):ag P f (pre++ .sl id ver off len::post) H res H':=by
 intro φ N w vals hR hA
 obtain⟨φ1,N1,hR1,hS1,hv⟩:=hR.freeze ho
 have hA1:qz (H.set id (.arr e k (ver+1) [])) φ1 N1 w (pre++ .d (.list false ((es.drop off).take len))::post) vals:=by
  refine⟨by rw[←hA.1];simp,fun i h1 h2=>?_⟩
  have h3:=hA.2 i (by simpa using h1) h2
  by_cases hi:i=pre.length
  ·subst hi
   simp only[List.getElem_append_right (Nat.le_refl _),Nat.sub_self,List.getElem_cons_zero]at h3⊢
   exact hv off len _ h3
  ·rcases Nat.lt_or_ge i pre.length with hlt|hge
   ·rw[List.getElem_append_left hlt]at h3⊢
    exact h3.since hR hS1
   ·rw[List.getElem_append_right hge]at h3⊢
    obtain⟨j,hj⟩:∃j,i-pre.length=j+1:=⟨i-pre.length-1,by omega⟩
    simp only[hj,List.getElem_cons_succ]at h3⊢
    exact h3.since hR hS1
 have h4:=h φ1 N1 w vals hR1 hA1
 have go:∀e' w',(∃φ' N',Rel H' φ' N' w'∧au (H.set id (.arr e k (ver+1) [])) φ1 N1 w H' φ' N' w'∧qp H' φ' N' w' res e')→∃φ' N',Rel H' φ' N' w'∧au H φ N w H' φ' N' w'∧qp H' φ' N' w' res e':=by
  rintro e' w' ⟨φ',N',hR',hS',hE⟩
  exact⟨φ',N',hR',hS1.trans hS',hE⟩
 rcases h4 with⟨h5,h6⟩|⟨v,w',h5,h6⟩
 ·exact .inl ⟨h5,h6.mono go⟩
 ·exact .inr ⟨v,w',h5,go _ _ h6⟩
theorem ab.p6{P:Program}{f:FuncId}(pre:List AV){post:List AV}{id k ver off len:Nat}{e:TypeId}{es:List (List D)}{H H':aa}{K:AV→aa→Prop}{KP:Value→aa→Prop}{r:AV}(ho:H[id]?=some (.arr e k ver es))
  (h:ag P f (pre++ .d (.list false ((es.drop off).take len))::post) (H.set id (.arr e k (ver+1) [])) (.ok r) H') (hk:K r H'):ab P f (pre++ .sl id ver off len::post) H K KP:=ab.ok (ag.freeze pre ho h) hk
def Ext(B H:aa):Prop:=∀(id:Nat) (o:aA),B[id]?=some o→o.live=true→H[id]?=some o
theorem Ext.refl(B:aa):Ext B B:=fun _ _ h _=>h
theorem Ext.app(B T:aa):Ext B (B++T):=fun id o h _=>by rw[List.getElem?_append_left (ao h)];exact h
def D5:aa→aa→Prop
 |[],_=>True
 |o::os,o'::os'=>(o.live=true→o'=o)∧D5 os os'
 |_::_,[]=>False
theorem D5.get:∀{B T:aa},D5 B T→∀(i:Nat) (o:aA),B[i]?=some o→o.live=true→T[i]?=some o
 |[],_,_,i,o,h,_=>by simp at h
 |b::B,[],h,i,o,_,_=>h.elim
 |b::B,t::T,h,0,o,ho,hl=>by
  simp only[List.getElem?_cons_zero,Option.some.injEq]at ho⊢
  subst ho
  exact h.1 hl
 |b::B,t::T,h,i+1,o,ho,hl=>by
  rw[List.getElem?_cons_succ]at ho⊢
  exact D5.get h.2 i o ho hl
theorem Ext.fg(H:aa){B T:aa}(h:D5 B T):Ext (H++B) (H++T):=fun i o ho hl=>by
 rcases Nat.lt_or_ge i H.length with hi|hi
 ·rw[List.getElem?_append_left hi]at ho⊢;exact ho
 ·rw[List.getElem?_append_right hi]at ho⊢;exact h.get _ o ho hl
def F7(hint:Bool):Op→Bool
 | .move _| .assign _| .pick .. | .build .. | .field .. | .index .. | .unOp .. | .convert .. | .extract .. | .sliceToArrayPointer .. | .makeInterface .. =>true
 | .makeFunc (.func _) _ _=>true
 | .buildSlice .. => !hint
 | .binOp op _ _ _ _=>(match op with| .eql| .neq=>false|_=>true)
 |_=>false
theorem Dq{P:Program}{s:Nat→AV}{H H2:aa}{hint:Bool}{op:Op}{K:AV→aa→Prop}(h:F7 hint op=true):fY P s H hint op K=fY P s H2 hint op fun r _=>K r H:=by
 by_cases hb:∃o t x y t',op= .binOp o t x y t'
 ·obtain⟨o,t,x,y,t',rfl⟩:=hb
  cases o<;>first|(unfold fY;simp only[lH,Bool.false_and,Bool.false_eq_true,false_and];done)|(cases h;done)
 cases op<;>first|rfl|cases h|(exact absurd ⟨_,_,_,_,_,rfl⟩ hb)|skip
 ·cases hint
  ·unfold fY
   rfl
  ·cases h
 ·rename_i f _ _
  cases f<;>first|rfl|cases h
theorem Aw{B H:aa}(hE:Ext B H){id ver i j n:Nat}{cs:List AV}(h:ah B id ver i j n=some cs):ah H id ver i j n=some cs:=by
 unfold ah at h⊢
 cases hb:B[id]? with
 |none=>rw[hb]at h;cases h
 |some o=>
  rw[hb]at h
  have hl:o.live=true:=by cases o<;>first|rfl|cases h
  rw[hE id o hb hl];exact h
theorem rM{B H:aa}(hE:Ext B H){n:Nat}{x:AV}{cs:List AV}(h:eH B n x=some cs):eH H n x=some cs:=by
 cases x with
 |ptr id ver i j=>exact Aw hE h
 |cu=>exact h
 |_=>cases h
def Em:Op→Bool
 | .load .. =>true
 | .fieldAddr .. =>true
 | .slice _ _ _ _ none=>true
 |_=>false
theorem xl{B H:aa}(hE:Ext B H){k:Nat}{lo:Option Int}{hi:Nat→Option Int}{x:AV}{K:AV→aa→Prop}{r:AV}(h:di B k lo hi (fun r' _=>r'=r) x)(hk:K r H):di H k lo hi K x:=by
 cases x with
 |d u=>
  cases u with
  |v _=>exact h.elim
  |list nn es=>
   simp only[di]at h⊢
   refine⟨h.1,?_⟩
   replace h:=h.2
   cases lo with
   |none=>exact h
   |some l=>
    cases hq:hi es.length with
    |none=>rw[hq]at h;exact h
    |some m=>rw[hq]at h;exact⟨h.1,h.2.1,h.2.2.1,by rw[h.2.2.2];exact hk⟩
 |sl id ver off len=>
  simp only[di]at h⊢
  cases ho:B[id]? with
  |none=>rw[ho]at h;exact h.elim
  |some o=>
   rw[ho]at h
   cases lo with
   |none=>exact h.elim
   |some l=>
    cases hq:hi len with
    |none=>rw[hq]at h;exact h.elim
    |some m=>
     rw[hq]at h
     rw[hE id o ho h.1.2.2]
     exact⟨h.1,h.2.1,h.2.2.1,h.2.2.2.1,h.2.2.2.2.1,by rw[h.2.2.2.2.2];exact hk⟩
 |_=>exact h.elim
theorem Be{B H:aa}(hE:Ext B H){x:AV}(h:fresh B x=true):fresh H x=true:=by
 cases x with
 |ptr id ver i j=>
  rw[rm]at h⊢
  cases hb:B[id]? with
  |none=>rw[hb]at h;cases h
  |some o=>
   rw[hb]at h
   rw[hE id o hb (by simp only[Bool.and_eq_true]at h;exact h.2)]
   exact h
 |_=>rfl
theorem DM{P:Program}{s:Nat→AV}{B H:aa}{hint:Bool}{op:Op}(hl:Em op=true)(hE:Ext B H){K:AV→aa→Prop}{r:AV}
  (h:fY P s B hint op fun r' _=>r'=r) (hk:K r H):fY P s H hint op K:=by
 by_cases hfa:∃t x f,op= .fieldAddr t x f
 ·obtain⟨t,x,f,rfl⟩:=hfa
  unfold fY at h⊢
  simp only at h⊢
  cases hf:FO P t f with
  |none=>rw[hf]at h;exact h
  |some of=>
   rw[hf]at h
   simp only at h⊢
   cases hi:TI P of.2 with
   |none=>rw[hi]at h;exact h
   |some z=>
    rw[hi]at h
    obtain⟨h1,h2,h⟩:=h
    refine⟨h1,Be hE h2,?_⟩
    cases ha:gu of.1 (ae s x)with
    |none=>rw[ha]at h;exact h
    |some y=>rw[ha]at h;rw[show y=r from h];exact hk
 cases op<;>first|(exact absurd ⟨_,_,_,rfl⟩ hfa)|cases hl|skip
 rotate_left
 ·rename_i t x lo hi mx
  cases mx with
  |some _=>cases hl
  |none=>
  unfold fY at h⊢
  simp only at h⊢
  cases he:SE P t with
  |none=>
   rw[he]at h
   simp only at h⊢
   cases hae:AE P t with
   |some ne=>
    rw[hae]at h
    simp only at h⊢
    obtain⟨h1,h⟩:=h
    refine⟨h1,?_⟩
    cases hi2:TI P ne.2 with
    |none=>rw[hi2]at h;exact h
    |some z=>
     rw[hi2]at h
     obtain⟨h2,h⟩:=h
     refine⟨h2,?_⟩
     generalize ae s x=v at*
     cases v with
     |cu ds=>exact⟨h.1,by rw[show(AV.d (.list true (ds.map fun d=>[d])))=r from h.2];exact hk⟩
     |_=>exact h.elim
   |none=>
   rw[hae]at h
   obtain⟨hu,h⟩:=h
   refine⟨hu,?_⟩
   split at h
   ·rename_i c hc
    split at h
    ·rename_i l m hl hm
     first
      |exact⟨h.1,h.2.1,h.2.2.1,by rw[h.2.2.2];exact hk⟩
      |(rw[hl,hm];exact⟨h.1,h.2.1,h.2.2.1,by rw[h.2.2.2];exact hk⟩)
    ·exact h.elim
   ·exact h.elim
  |some e=>
   rw[he]at h
   simp only at h⊢
   cases hi2:TI P e with
   |none=>rw[hi2]at h;exact h
   |some z=>
    rw[hi2]at h
    obtain⟨z,k,b⟩:=z
    exact xl hE h hk
 rename_i t x
 unfold fY at h⊢
 simp only at h⊢
 cases hg:fJ P t with
 |none=>rw[hg]at h;exact h
 |some b=>
  rw[hg]at h
  cases b with
  |true=>
   simp only at h⊢
   split at h
   ·split at h
    ·rename_i cs hr
     rw[rM hE hr]
     subst h
     exact hk
    ·exact h.elim
   ·exact h.elim
  |false=>
   simp only at h⊢
   split at h
   ·rename_i c hr
    rw[rM hE hr]
    subst h
    exact hk
   ·exact h.elim
def jH(hint:Nat→Bool)(first:Bool)(o:Oper):Bool:=F7 (match o.dst with|some d=>hint d|none=>false) o.op||(first&&Em o.op)
section
variable (P:Program) (hint:Nat→Bool) (n:Nat) (ops:Array Oper)
def cj(H:aa)(s:Nat→AV)(o:Oper)(r:AV)(H':aa):Prop:=match o.guard with
 |none=>∀K KP,K r H'→ay P hint s H o K KP
 |some (j,want)=>∃b,fQ ops s n j want=some b∧if b=true then ∀K KP,K r H'→ay P hint s H o K KP else r= .bf []∧H'=H
end
section
variable {P:Program} {hint:Nat→Bool} {n:Nat} {ops:Array Oper} {Q:aP}
theorem cj.op{H H':aa}{s:Nat→AV}{o:Oper}{r:AV}(h:cj P hint n ops H s o r H'){K:(Nat→AV)→aa→Prop}(hk:K (bJ n s o.dst r) H'):c8 P hint n ops Q o K s H:=by
 unfold cj at h
 unfold c8
 split at h
 ·rename_i hg
  simp only[hg]
  exact h (fun r H'=>K (bJ n s o.dst r) H') _ hk
 ·rename_i j want hg
  obtain⟨b,hb,h⟩:=h
  simp only[hg,hb]
  split at h
  ·rw[if_pos (by assumption)];exact h (fun r H'=>K (bJ n s o.dst r) H') _ hk
  ·rw[if_neg (by assumption)];rw[h.1,h.2]at hk;exact hk
theorem cj.congr{H H':aa}{s s':Nat→AV}{o:Oper}{r:AV}(h:cj P hint n ops H s o r H')(h1:∀t∈kA o,s t=s' t)(h2:∀j w,o.guard=some (j,w)→∀d,bj ops j=some d→s d=s' d):cj P hint n ops H s' o r H':=by
 unfold cj at h⊢
 split at h
 ·rename_i hg
  try simp only[hg]
  intro K KP hk
  rw[←ir h1]
  exact h K KP hk
 ·rename_i j want hg
  try simp only[hg]
  obtain⟨b,hb,h⟩:=h
  refine⟨b,?_,?_⟩
  ·rw[←hb]
   unfold fQ
   have:=h2 j want hg
   unfold bj at this
   cases hd:(ops[j]?).bind (·.dst)with
   |none=>rfl
   |some d=>simp only[this d hd]
  ·split at h
   ·rw[if_pos (by assumption)]
    intro K KP hk
    rw[←ir h1]
    exact h K KP hk
   ·rw[if_neg (by assumption)];exact h
theorem pr(hc:pB hint ops)(m:Nat)(hm:m≤ops.size)(htl:∀i o,ops[i]?=some o→(i=m→∀j,j<m→cD ops 12 i j=true)∧(m<i→aY o (i-1)=true))(s:Nat→AV)(rs:Nat→AV)(HR:(Nat→Bool)→aa→Prop)
  (hHR:∀L L' H,(∀i,i<m→L i=L' i)→HR L H→HR L' H)
  (hstep:∀(L:Nat→Bool) (H:aa) i o,HR L H→i<m→ops[i]?=some o→L i=false→(∀j oj i',ops[j]?=some oj→L j=true→aY oj i'=true→L i'=true)→(∀j,aY o j=true→L j=true)→
   ∃H',cj P hint n ops H (bF n ops s rs i) o (rs i) H'∧HR (fun j=>if j=i then true else L j) H')
  (hQ:∀L H,(∀i,i<m→L i=true)→HR L H→aV P hint n ops Q (ops.toList.drop m) (bF n ops s rs m) H):
  ∀(fuel:Nat) (listed:Array Bool) (s':Nat→AV) (H:aa),listed.size=ops.size→(List.range ops.size).countP (fun j=> !listed.getD j true)≤fuel→
   (∀t j,bj ops j=some t→s' t=if listed.getD j false=true then(if t<n then rs j else .top)else s t)→(∀t,(∀j,bj ops j≠some t)→s' t=s t)→
   (∀j oj i,ops[j]?=some oj→listed.getD j false=true→aY oj i=true→listed.getD i false=true)→(∀i,m≤i→i<ops.size→listed.getD i false=false)→
   HR (fun c=>listed.getD c false) H→fR P hint n ops Q fuel listed s' H:=by
 have st_no:∀k t,(∀j,j<k→bj ops j≠some t)→bF n ops s rs k t=s t:=by
  intro k t
  induction k with
  |zero=>intro _;rfl
  |succ k ih=>
   intro h
   simp only[bF]
   cases hd:bj ops k with
   |none=>exact ih fun j hj=>h j (by omega)
   |some d=>
    simp only[bJ]
    have:t≠d:=fun e=>h k (by omega) (by rw[hd,e])
    rw[if_neg this]
    exact ih fun j hj=>h j (by omega)
 have st_dst:∀k t j,bj ops j=some t→j<k→bF n ops s rs k t=if t<n then rs j else .top:=by
  intro k t j hj
  induction k with
  |zero=>intro h;omega
  |succ k ih=>
   intro h
   simp only[bF]
   by_cases e:j=k
   ·subst e
    rw[hj]
    simp only[bJ,if_pos]
   ·have:=ih (by omega)
    cases hd:bj ops k with
    |none=>exact this
    |some d=>
     simp only[bJ]
     have hne:t≠d:=fun e'=>e (hc.once j k t hj (by rw[hd,e']))
     rw[if_neg hne]
     exact this
 have bind_of:∀(listed:Array Bool) (o:Oper) (j:Nat),(o.after.all fun e=> !Region.binds .any e||listed.getD e.on false)=true→aY o j=true→listed.getD j false=true:=by
  intro listed o j h1 h2
  unfold aY at h2
  rw[List.any_eq_true]at h2
  obtain⟨e,he,h2⟩:=h2
  rw[Array.all_eq_true_iff_forall_mem]at h1
  have:=h1 e (Array.mem_toList_iff.1 he)
  simp only[Bool.and_eq_true,beq_iff_eq]at h2
  simpa[h2.1,h2.2]using this
 have fin:∀(listed:Array Bool) (s':Nat→AV),(∀i,i<m→listed.getD i true=true)→(∀i,m≤i→i<ops.size→listed.getD i false=false)→listed.size=ops.size→
   (∀t j,bj ops j=some t→s' t=if listed.getD j false=true then(if t<n then rs j else .top)else s t)→(∀t,(∀j,bj ops j≠some t)→s' t=s t)→s'=bF n ops s rs m:=by
  intro listed s' hall hno hsz h1 h2
  funext t
  by_cases hd:∃j,bj ops j=some t
  ·obtain⟨j,hj⟩:=hd
   have hjl:=et hj
   rcases Nat.lt_or_ge j m with hjm|hjm
   ·have:listed.getD j false=true:=by
     have:=hall j hjm
     simpa[Array.getD,show j<listed.size by omega]using this
    rw[h1 t j hj,if_pos this,st_dst _ t j hj hjm]
   ·rw[h1 t j hj,if_neg (by simp[hno j hjm hjl]),st_no m t fun j' hj' hd'=>by
     have:=hc.once j' j t hd' hj
     omega]
  ·have hd':∀j,bj ops j≠some t:=fun j hj=>hd ⟨j,hj⟩
   rw[h2 t hd',st_no _ t fun j _=>hd' j]
 intro fuel
 induction fuel with
 |zero=>
  intro listed s' H hsz hcnt h1 h2 hcl hno hq
  have hall:∀i,i<ops.size→listed.getD i true=true:=by
   intro i hi
   have h0:(List.range ops.size).countP (fun j=> !listed.getD j true)=0:=by omega
   rw[List.countP_eq_zero]at h0
   simpa using h0 i (List.mem_range.2 hi)
  have hs':=fin listed s' (fun i hi=>hall i (by omega)) hno hsz h1 h2
  subst hs'
  have hQ:=hQ _ H (fun i hi=>by have:=hall i (by omega);simpa[Array.getD,show i<listed.size by omega]using this) hq
  exact gj hc (fun i o ho hi=>(htl i o ho).2 hi) hsz m (Nat.le_refl _) hm (fun i hi=>hall i (by omega)) (fun i hi hi2=>hno i hi hi2) hQ (by
   rcases Nat.lt_or_ge m ops.size with h|h
   ·have e1:=hall m h
    have e2:=hno m (Nat.le_refl _) h
    simp[Array.getD,show m<listed.size by omega]at e1 e2
    rw[e1]at e2
    cases e2
   ·omega)
 |succ fuel ih=>
  intro listed s' H hsz hcnt h1 h2 hcl hno hq
  by_cases hpre:∀i,i<m→listed.getD i true=true
  ·have hs':=fin listed s' hpre hno hsz h1 h2
   subst hs'
   have hQ:=hQ _ H (fun i hi=>by have:=hpre i hi;simpa[Array.getD,show i<listed.size by omega]using this) hq
   refine gj hc (fun i o ho hi=>(htl i o ho).2 hi) hsz m (Nat.le_refl _) hm hpre hno hQ ?_
   have hsub:(List.range ops.size).countP (fun j=>decide (m≤j))≤(List.range ops.size).countP (fun j=> !listed.getD j true):=by
    refine List.countP_mono_left fun j hj hmj=>?_
    have hj:=List.mem_range.1 hj
    have:=hno j (by simpa using hmj) hj
    simp[Array.getD,show j<listed.size by omega]at this⊢
    exact this
   have hcm:∀N,m≤N→(List.range N).countP (fun j=>decide (m≤j))=N-m:=by
    intro N hN
    induction N with
    |zero=>simp
    |succ N ihN=>
     rw[List.range_succ,List.countP_append,List.countP_singleton]
     by_cases e:m≤N
     ·rw[ihN e];simp[e];omega
     ·have e':m=N+1:=by omega
      have:(List.range N).countP (fun j=>decide (m≤j))=0:=by
       rw[List.countP_eq_zero]
       intro j hj
       have:=List.mem_range.1 hj
       simp;omega
      rw[this];simp[e];omega
   rw[hcm _ hm]at hsub
   omega
  have hex:∃i,i<m∧listed.getD i true=false∧∀j,j<i→listed.getD j true=true:=by
   have:∃i,i<m∧listed.getD i true=false:=by
    rcases Classical.not_forall.1 hpre with⟨i,hi⟩
    rcases Classical.not_imp.1 hi with⟨h1,h2⟩
    exact⟨i,h1,by simpa using h2⟩
   obtain⟨i,hi⟩:=this
   induction i using Nat.strongRecOn with
   |_ i ihi=>
    by_cases hj:∃j,j<i∧listed.getD j true=false
    ·obtain⟨j,hj1,hj2⟩:=hj
     exact ihi j hj1 ⟨by omega,hj2⟩
    ·refine⟨i,hi.1,hi.2,fun j hji=>?_⟩
     cases hq:listed.getD j true with
     |true=>rfl
     |false=>exact absurd ⟨j,hji,hq⟩ hj
  obtain⟨i0,hi0,hu0,hb0⟩:=hex
  refine⟨fun hr=>?_,fun i hi=>?_⟩
  ·exfalso
   have hlt0:i0<ops.size:=by omega
   have hget:ops[i0]?=some ops[i0]:=by simp[hlt0]
   have:i0∈Region.ready .any ops listed:=by
    unfold Region.ready
    rw[List.mem_filter]
    refine⟨List.mem_range.2 hlt0,?_⟩
    simp only[hu0,hget,Bool.not_false,Bool.true_and,Option.map_some,Option.getD_some]
    rw[Array.all_eq_true_iff_forall_mem]
    intro e he
    cases hbe:Region.binds .any e
    ·simp
    have hlt:=hc.down i0 _ hget e he hbe
    have:=hb0 e.on hlt
    have:listed.getD e.on false=true:=by simpa[Array.getD,show e.on<listed.size by omega]using this
    simp[this]
   rw[hr]at this
   simp at this
  ·unfold Region.ready at hi
   rw[List.mem_filter]at hi
   obtain⟨hi,hrd⟩:=hi
   have hi:=List.mem_range.1 hi
   have hget:ops[i]?=some ops[i]:=by simp[hi]
   simp only[hget,Option.map_some,Option.getD_some,Bool.and_eq_true,Bool.not_eq_true']at hrd
   obtain⟨hun,haft⟩:=hrd
   simp only[hget]
   have hdst:bj ops i=(ops[i]).dst:=by simp[bj,hget]
   have hun':listed.getD i false=false:=by simpa[Array.getD,show i<listed.size by omega]using hun
   have him:i<m:=by
    rcases Nat.lt_or_ge i m with h|h
    ·exact h
    ·exfalso
     have hu0':listed.getD i0 false=false:=by simpa[Array.getD,show i0<listed.size by omega]using hu0
     rcases Nat.lt_or_ge m i with h2|h2
     ·have:=bind_of listed ops[i] (i-1) haft ((htl i _ hget).2 h2)
      rw[hno (i-1) (by omega) (by omega)]at this
      cases this
     ·have him:i=m:=by omega
      have:=lh hcl 12 i _ hget (fun j hj=>bind_of listed ops[i] j haft hj) i0 ((htl i _ hget).1 him i0 hi0)
      rw[this]at hu0'
      cases hu0'
   have agree:∀t j,bj ops j=some t→aY ops[i] j=true→bF n ops s rs i t=s' t:=by
    intro t j hj hb
    have hl:=bind_of listed ops[i] j haft hb
    have hlt:j<i:=by
     unfold aY at hb
     rw[List.any_eq_true]at hb
     obtain⟨e,he,hb⟩:=hb
     simp only[Bool.and_eq_true,beq_iff_eq]at hb
     have:=hc.down i _ hget e (Array.mem_toList_iff.1 he) hb.1
     omega
    rw[st_dst i t j hj hlt,h1 t j hj,if_pos hl]
   have hrd:∀t∈kA ops[i],bF n ops s rs i t=s' t:=by
    intro t ht
    by_cases hd:∃j,bj ops j=some t
    ·obtain⟨j,hj⟩:=hd
     rcases hc.reads i _ hget t ht j hj with hb|⟨oj,hoj,hb⟩
     ·exact agree t j hj hb
     ·have hnl:listed.getD j false=false:=by
       cases hq:listed.getD j false with
       |false=>rfl
       |true=>rw[hcl j oj i hoj hq hb]at hun';cases hun'
      have hlt:i<j:=by
       unfold aY at hb
       rw[List.any_eq_true]at hb
       obtain⟨e,he,hb⟩:=hb
       simp only[Bool.and_eq_true,beq_iff_eq]at hb
       have:=hc.down j _ hoj e (Array.mem_toList_iff.1 he) hb.1
       omega
      rw[h1 t j hj,if_neg (by simp[hnl]),st_no i t fun j' hj' hd'=>by
       have:=hc.once j' j t hd' hj
       omega]
    ·have hd':∀j,bj ops j≠some t:=fun j hj=>hd ⟨j,hj⟩
     rw[st_no i t fun j _=>hd' j,h2 t hd']
   have hgd:∀j w,(ops[i]).guard=some (j,w)→∀d,bj ops j=some d→bF n ops s rs i d=s' d:=fun j w hg d hd=>agree d j hd (hc.guard i _ hget j w hg)
   have hset:∀j b,(listed.setIfInBounds i true).getD j b=if j=i then true else listed.getD j b:=by
    intro j b
    simp only[Array.getD_eq_getD_getElem?,Array.getElem?_setIfInBounds]
    by_cases e:i=j
    ·subst e;simp[hsz,hi]
    ·rw[if_neg e,if_neg (Ne.symm e)]
   have go:∀H2,HR (fun c=>(listed.setIfInBounds i true).getD c false) H2→fR P hint n ops Q fuel (listed.setIfInBounds i true) (bJ n s' (ops[i]).dst (rs i)) H2:=by
    intro H2 hq2
    refine ih _ _ _ (by simpa using hsz) ?_ ?_ ?_ ?_ ?_ hq2
    ·have:=mY (p:=fun j=> !(listed.setIfInBounds i true).getD j true) (q:=fun j=> !listed.getD j true) (i:=i) (fun j hj=>by
      simp only[hset]at hj⊢
      by_cases e:j=i
      ·simp[e]at hj
      ·simpa[e]using hj) (by simp[hset]) (by simp[hun]) (List.range ops.size) (List.mem_range.2 hi)
     omega
    ·intro t j hj
     rw[hset]
     by_cases e:j=i
     ·subst e
      rw[hdst]at hj
      rw[if_pos rfl,if_pos rfl,hj]
      simp only[bJ,if_pos]
     ·rw[if_neg e]
      cases hd:(ops[i]).dst with
      |none=>exact h1 t j hj
      |some d=>
       simp only[bJ]
       have:t≠d:=fun e'=>e (hc.once j i t hj (by rw[hdst,hd,e']))
       rw[if_neg this]
       exact h1 t j hj
    ·intro t ht
     cases hd:(ops[i]).dst with
     |none=>exact h2 t ht
     |some d=>
      simp only[bJ]
      have:t≠d:=fun e'=>ht i (by rw[hdst,hd,e'])
      rw[if_neg this]
      exact h2 t ht
    ·intro j oj i' hoj hlj hb
     rw[hset]at hlj⊢
     by_cases e':i'=i
     ·rw[if_pos e']
     ·rw[if_neg e']
      by_cases e:j=i
      ·subst e
       rw[hget]at hoj
       cases hoj
       exact bind_of listed _ i' haft hb
      ·rw[if_neg e]at hlj
       exact hcl j oj i' hoj hlj hb
    ·intro j hj hj2
     rw[hset,if_neg (by omega)]
     exact hno j hj hj2
   obtain⟨H2,hst,hr2⟩:=hstep (fun c=>listed.getD c false) H i _ hq him hget hun' hcl (fun j hj=>bind_of listed ops[i] j haft hj)
   refine cj.op (hst.congr hrd hgd) (go _ (hHR _ _ _ (fun j _=>?_) hr2))
   rw[hset]
theorem lK(hc:pB hint ops)(m:Nat)(hm:m≤ops.size)(htl:∀i o,ops[i]?=some o→(i=m→∀j,j<m→cD ops 12 i j=true)∧(m<i→aY o (i-1)=true))(s:Nat→AV)(rs:Nat→AV)(hp:Nat→aa)(ch:Nat→Bool)
  (hch:∀c c',c<c'→c'<m→ch c=true→ch c'=true→cD ops 12 c' c=true) (hfr:∀i,i<m→ch i=false→hp (i+1)=hp i)
  (hst:∀i o,i<m→ops[i]?=some o→ch i=true→cj P hint n ops (hp i) (bF n ops s rs i) o (rs i) (hp (i+1)))
  (hsf:∀i o,i<m→ops[i]?=some o→ch i=false→∀j,j≤m→(∀c,c<j→ch c=true→cD ops 12 c i=false)→cj P hint n ops (hp j) (bF n ops s rs i) o (rs i) (hp j))
  (hQ:aV P hint n ops Q (ops.toList.drop m) (bF n ops s rs m) (hp m)):
  ∀(fuel:Nat) (listed:Array Bool) (s':Nat→AV) (H:aa),listed.size=ops.size→(List.range ops.size).countP (fun j=> !listed.getD j true)≤fuel→
   (∀t j,bj ops j=some t→s' t=if listed.getD j false=true then(if t<n then rs j else .top)else s t)→(∀t,(∀j,bj ops j≠some t)→s' t=s t)→
   (∀j oj i,ops[j]?=some oj→listed.getD j false=true→aY oj i=true→listed.getD i false=true)→(∀i,m≤i→i<ops.size→listed.getD i false=false)→
   (∃q,q≤m∧H=hp q∧∀c,c<m→ch c=true→(listed.getD c false=true↔c<q))→fR P hint n ops Q fuel listed s' H:=by
 have hsame:∀d q,q+d≤m→(∀c,c<m→ch c=true→(c<q↔c<q+d))→hp (q+d)=hp q:=by
  intro d
  induction d with
  |zero=>intros;rfl
  |succ d ihd=>
   intro q hq hcc
   have h1:ch (q+d)=false:=by
    cases h:ch (q+d)with
    |false=>rfl
    |true=>have:=(hcc (q+d) (by omega) h).2 (by omega);omega
   rw[←Nat.add_assoc,hfr (q+d) (by omega) h1]
   refine ihd q (by omega) fun c hcm hct=>⟨fun h=>by omega,fun h=>(hcc c hcm hct).2 (by omega)⟩
 have hsame2:∀q i,q≤m→i≤m→(∀c,c<m→ch c=true→(c<q↔c<i))→hp q=hp i:=by
  intro q i hq hi hcc
  rcases Nat.le_total q i with h|h
  ·obtain⟨d,rfl⟩:=Nat.exists_eq_add_of_le h
   exact(hsame d q hi hcc).symm
  ·obtain⟨d,rfl⟩:=Nat.exists_eq_add_of_le h
   exact hsame d i hq fun c hcm hct=>(hcc c hcm hct).symm
 intro fuel listed s' H hsz hcnt h1 h2 hcl hno hq
 refine pr hc m hm htl s rs (fun L H=>∃q,q≤m∧H=hp q∧∀c,c<m→ch c=true→(L c=true↔c<q)) ?_ ?_ ?_ fuel listed s' H hsz hcnt h1 h2 hcl hno hq
 ·rintro L L' H hL ⟨q,hqm,rfl,hql⟩
  exact⟨q,hqm,rfl,fun c hcm hct=>by rw[←hL c hcm];exact hql c hcm hct⟩
 ·rintro L _ i o ⟨q,hqm,rfl,hql⟩ him hget hun' hcl hbi
  have breach:∀c o',ops[c]?=some o'→(∀j,aY o' j=true→L j=true)→∀i',cD ops 12 c i'=true→L i'=true:=fun c o' hoc hb i' hr=>fH hcl 12 c o' hoc hb i' hr
  cases hci:ch i with
  |false=>
   have hnr:∀c,c<q→ch c=true→cD ops 12 c i=false:=fun c hcq hct=>by
    cases hr:cD ops 12 c i with
    |false=>rfl
    |true=>
     exfalso
     have hgc:ops[c]?=some ops[c]:=by simp[show c<ops.size by omega]
     have hl:=(hql c (by omega) hct).2 hcq
     have:=breach c _ hgc (fun j hj=>hcl c _ j hgc hl hj) i hr
     rw[hun']at this
     cases this
   refine⟨_,hsf i _ him hget hci q hqm hnr,q,hqm,rfl,fun c hcm hct=>?_⟩
   show(if c=i then true else L c)=true↔c<q
   rw[if_neg (by intro e;rw[e,hci]at hct;cases hct)]
   exact hql c hcm hct
  |true=>
   have hbef:∀c,c<m→ch c=true→(L c=true↔c<i):=by
    intro c hcm hct
    refine⟨fun hl=>?_,fun hlt=>?_⟩
    ·rcases Nat.lt_trichotomy c i with h|h|h
     ·exact h
     ·subst h;rw[hun']at hl;cases hl
     ·exfalso
      have hgc:ops[c]?=some ops[c]:=by simp[show c<ops.size by omega]
      have:=breach c _ hgc (fun j hj=>hcl c _ j hgc hl hj) i (hch i c h hcm hci hct)
      rw[hun']at this
      cases this
    ·exact breach i _ hget hbi c (hch c i hlt him hct hci)
   have hqi:hp q=hp i:=hsame2 q i hqm (by omega) fun c hcm hct=>(hql c hcm hct).symm.trans (hbef c hcm hct)
   rw[hqi]
   refine⟨_,hst i _ him hget hci,i+1,by omega,rfl,fun c hcm hct=>?_⟩
   show(if c=i then true else L c)=true↔c<i+1
   by_cases e:c=i
   ·subst e;simp
   ·rw[if_neg e]
    refine(hbef c hcm hct).trans ⟨fun h=>by omega,fun h=>by omega⟩
 ·rintro L _ hall ⟨q,hqm,rfl,hql⟩
  rw[hsame2 q m hqm (Nat.le_refl _) fun c hcm hct=>⟨fun _=>hcm,fun _=>(hql c hcm hct).1 (hall c hcm)⟩]
  exact hQ
end
section
variable (P:Program) (hint:Nat→Bool) (n:Nat) (ops:Array Oper)
def dS(B:aa)(Q:aP):List Bool→List Oper→(Nat→AV)→aa→Prop
 |[],l,s,H=>aV P hint n ops Q l s H
 |_::_,[],s,H=>aV P hint n ops Q [] s H
 |true::bs,o::rest,s,H=>c8 P hint n ops (fun _ _ _=>False) o (fun s' H'=>Ext B H'∧dS B Q bs rest s' H') s H
 |false::bs,o::rest,s,H=>c8 P hint n ops (fun _ _ _=>False) o (fun s' H'=>H'=H∧dS B Q bs rest s' H') s H
end
section
variable {P:Program} {hint:Nat→Bool} {n:Nat} {ops:Array Oper} {Q:aP}
theorem jv{o:Oper}(hdt:j7 hint o.op=true){s:Nat→AV}{H:aa}{K:(Nat→AV)→aa→Prop}(h:c8 P hint n ops (fun _ _ _=>False) o K s H):∃r H',cj P hint n ops H s o r H'∧K (bJ n s o.dst r) H':=by
 unfold c8 at h
 split at h
 ·rename_i hg
  obtain⟨r,H',hr,hdet⟩:=fw hdt h
  exact⟨r,H',by unfold cj;simp only[hg];exact fun K KP hk=>hdet K KP hk,hr⟩
 ·rename_i j want hg
  split at h
  ·rename_i b hb
   split at h
   ·rename_i hbw
    obtain⟨r,H',hr,hdet⟩:=fw hdt h
    exact⟨r,H',by unfold cj;simp only[hg];exact⟨b,hb,by rw[if_pos hbw];exact fun K KP hk=>hdet K KP hk⟩,hr⟩
   ·rename_i hbw
    exact⟨.bf [],H,by unfold cj;simp only[hg];exact⟨b,hb,by simp[hbw]⟩,h⟩
  ·exact h.elim
theorem ju{B:aa}(hdt:∀(i:Nat) (o:Oper),ops[i]?=some o→j7 hint o.op=true)(s0:Nat→AV):∀(bs:List Bool) (k:Nat) (rs0:Nat→AV) (hp0:Nat→aa),k+bs.length≤ops.size→dS P hint n ops B Q bs (ops.toList.drop k) (bF n ops s0 rs0 k) (hp0 k)→
  ∃(rs:Nat→AV) (hp:Nat→aa),(∀i,i<k→rs i=rs0 i)∧(∀i,i≤k→hp i=hp0 i)∧
   (∀i o,k≤i→i<k+bs.length→ops[i]?=some o→(bs[i-k]?=some true→cj P hint n ops (hp i) (bF n ops s0 rs i) o (rs i) (hp (i+1))∧Ext B (hp (i+1)))∧
    (bs[i-k]?=some false→cj P hint n ops (hp i) (bF n ops s0 rs i) o (rs i) (hp i)∧hp (i+1)=hp i))∧
   aV P hint n ops Q (ops.toList.drop (k+bs.length)) (bF n ops s0 rs (k+bs.length)) (hp (k+bs.length))
 |[],k,rs0,hp0,hk,h=>⟨rs0,hp0,fun _ _=>rfl,fun _ _=>rfl,fun i o h1 h2=>by simp at h2;omega,by
   have h:aV P hint n ops Q (ops.toList.drop k) (bF n ops s0 rs0 k) (hp0 k):=by
    cases hd:ops.toList.drop k<;>(rw[hd]at h;exact h)
   exact h⟩
 |b::bs,k,rs0,hp0,hk,h=>by
  simp only[List.length_cons]at hk
  have hlt:k<ops.size:=by omega
  have hget:ops[k]?=some ops[k]:=by simp[hlt]
  have hd:ops.toList.drop k=ops[k]::ops.toList.drop (k+1):=by
   rw[List.drop_eq_getElem_cons (by simpa using hlt)];simp
  rw[hd]at h
  have hdst:bj ops k=(ops[k]).dst:=by simp[bj,hget]
  have step:∃r H',cj P hint n ops (hp0 k) (bF n ops s0 rs0 k) ops[k] r H'∧(b=true→Ext B H')∧(b=false→H'=hp0 k)∧dS P hint n ops B Q bs (ops.toList.drop (k+1)) (bJ n (bF n ops s0 rs0 k) (ops[k]).dst r) H':=by
   cases b with
   |true=>
    obtain⟨r,H',h1,h2,h3⟩:=jv (hdt k _ hget) h
    exact⟨r,H',h1,fun _=>h2,fun e=>(by cases e),h3⟩
   |false=>
    obtain⟨r,H',h1,rfl,h3⟩:=jv (hdt k _ hget) h
    exact⟨r,_,h1,fun e=>(by cases e),fun _=>rfl,h3⟩
  obtain⟨r,H',h1,h2,h3,h4⟩:=step
  let rs1:Nat→AV:=fun i=>if i=k then r else rs0 i
  let hp1:Nat→aa:=fun i=>if i=k+1 then H' else hp0 i
  have e1:rs1 k=r:=if_pos rfl
  have e2:hp1 (k+1)=H':=if_pos rfl
  have hst:∀(rs:Nat→AV) i,i≤k→(∀j,j<i→rs j=rs0 j)→bF n ops s0 rs i=bF n ops s0 rs0 i:=by
   intro rs i
   induction i with
   |zero=>intros;rfl
   |succ i ih=>
    intro hi hr
    simp only[bF,ih (by omega) fun j hj=>hr j (by omega),hr i (by omega)]
  have h5:dS P hint n ops B Q bs (ops.toList.drop (k+1)) (bF n ops s0 rs1 (k+1)) (hp1 (k+1)):=by
   rw[e2]
   simp only[bF,e1,hdst]
   rw[hst rs1 k (Nat.le_refl _) fun j hj=>if_neg (by omega)]
   exact h4
  obtain⟨rs,hp,g1,g2,g3,g4⟩:=ju hdt s0 bs (k+1) rs1 hp1 (by omega) h5
  have f1:∀i,i<k→rs i=rs0 i:=fun i hi=>by rw[g1 i (by omega)];exact if_neg (by omega)
  have f2:∀i,i≤k→hp i=hp0 i:=fun i hi=>by rw[g2 i (by omega)];exact if_neg (by omega)
  have f3:rs k=r:=by rw[g1 k (by omega)];exact e1
  have f4:hp (k+1)=H':=by rw[g2 (k+1) (by omega)];exact e2
  refine⟨rs,hp,f1,f2,fun i o hi hi2 ho=>?_,by rw[List.length_cons,show k+(bs.length+1)=k+1+bs.length from by omega];exact g4⟩
  rcases Nat.lt_or_ge k i with hki|hki
  ·have:=g3 i o hki (by simp only[List.length_cons]at hi2;omega) ho
   rw[show i-k=(i-(k+1))+1 from by omega,List.getElem?_cons_succ]
   exact this
  ·obtain rfl:i=k:=by omega
   rw[hget]at ho
   cases ho
   rw[Nat.sub_self,List.getElem?_cons_zero,f2 i (Nat.le_refl _),f3,f4,hst rs i (Nat.le_refl _) fun j hj=>f1 j hj]
   refine⟨fun e=>?_,fun e=>?_⟩
   ·exact⟨h1,h2 (Option.some.inj e)⟩
   ·have:=h3 (Option.some.inj e)
    subst this
    exact⟨h1,rfl⟩
theorem rA{o:Oper}{s:Nat→AV}{H:aa}{K:AV→aa→Prop}{KP:Value→aa→Prop}(h1:∀x,o.op≠ .panic x)(h2:∀c,o.op≠ .call c):ay P hint s H o K KP=fY P s H (match o.dst with|some d=>hint d|none=>false) o.op K:=by
 unfold ay
 split
 ·rename_i x hx;exact absurd hx (h1 x)
 ·rename_i c hx;exact absurd hx (h2 c)
 ·rfl
theorem ou{o:Oper}{s:Nat→AV}{B H H2:aa}{r:AV}{first:Bool}(hf:jH hint first o=true)(hE:first=true→Ext H H2)(h:∀K KP,K r H→ay P hint s H o K KP):∀K KP,K r H2→ay P hint s H2 o K KP:=by
 intro K KP hk
 have h0:=h (fun r' _=>r'=r) (fun _ _=>False) rfl
 unfold jH at hf
 rw[Bool.or_eq_true]at hf
 rcases hf with hf|hf
 ·have n1:∀x,o.op≠ .panic x:=fun x e=>by rw[e]at hf;cases hf
  have n2:∀c,o.op≠ .call c:=fun x e=>by rw[e]at hf;cases hf
  rw[rA n1 n2]at h0⊢
  rw[Dq (H:=H2) (H2:=H) hf]
  exact uz (fun r' _ e=>by rw[e];exact hk) h0
 ·rw[Bool.and_eq_true]at hf
  have n1:∀x,o.op≠ .panic x:=fun x e=>by rw[e]at hf;cases hf.2
  have n2:∀c,o.op≠ .call c:=fun x e=>by rw[e]at hf;cases hf.2
  rw[rA n1 n2]at h0⊢
  exact DM hf.2 (hE hf.1) h0 hk
theorem eh{o:Oper}{s:Nat→AV}{H H2:aa}{r:AV}{first:Bool}(hf:jH hint first o=true)(hE:first=true→Ext H H2)(h:cj P hint n ops H s o r H):cj P hint n ops H2 s o r H2:=by
 unfold cj at h⊢
 split at h
 ·rename_i hg
  try simp only[hg]
  exact ou (B:=H) hf hE h
 ·rename_i j want hg
  try simp only[]
  obtain⟨b,hb,h⟩:=h
  refine⟨b,hb,?_⟩
  split at h
  ·rw[if_pos (by assumption)];exact ou (B:=H) hf hE h
  ·rw[if_neg (by assumption)];simp[h.1]
end
def vo(hint:Nat→Bool)(ops:Array Oper)(bs:List Bool):Bool:=(List.range bs.length).all fun i=>match bs[i]?,ops[i]? with
 |some false,some o=>jH hint ((bs.take i).all (!·)) o
 |some true,some _=>(List.range i).all fun c=>bs[c]?==some false||cD ops 12 i c
 |_,_=>false
section
variable {P:Program} {hint:Nat→Bool} {n:Nat} {ops:Array Oper} {Q:aP}
theorem Ag(bs:List Bool){H0 H:aa}{id:Nat}{s:Nat→AV}(hm:P.follows .mixedOrders=true)(hc:ee hint ops=true)(ht:eg ops bs.length=true)(hx:vo hint ops bs=true)
  (h:dS P hint n ops H Q bs ops.toList s H):cO P hint n H0 (.region id ops true) Q s H:=by
 obtain⟨hms,htl⟩:=eW ht
 refine⟨hm,?_⟩
 obtain⟨rs,hp,_,g2,g3,g4⟩:=ju (cA hc).H5 s bs 0 (fun _=> .top) (fun _=>H) (by omega) h
 have g20:hp 0=H:=g2 0 (Nat.le_refl _)
 simp only[Nat.zero_add,Nat.sub_zero,Nat.zero_le,true_implies]at g3 g4
 unfold vo at hx
 rw[List.all_eq_true]at hx
 have hget:∀i,i<bs.length→∃o,ops[i]?=some o:=fun i hi=>⟨ops[i]'(by omega),by simp[show i<ops.size by omega]⟩
 have hbs:∀i (hi:i<bs.length),bs[i]?=some bs[i]:=fun i hi=>List.getElem?_eq_getElem hi
 have hext:∀j,j≤bs.length→Ext H (hp j):=by
  intro j
  induction j with
  |zero=>intro _;rw[g20];exact Ext.refl H
  |succ j ihj=>
   intro hj
   obtain⟨o,ho⟩:=hget j (by omega)
   have g:=g3 j o (by omega) ho
   have hb:=hbs j (by omega)
   cases hbj:bs[j]'(by omega)with
   |true=>rw[hbj]at hb;exact(g.1 hb).2
   |false=>rw[hbj]at hb;rw[(g.2 hb).2];exact ihj (by omega)
 let ch:Nat→Bool:=fun i=>bs[i]?.getD false
 have chT:∀i,i<bs.length→ch i=true→bs[i]?=some true:=fun i hi h=>by
  have h:bs[i]?.getD false=true:=h
  rw[hbs i hi]at h⊢
  simpa using h
 have chF:∀i,i<bs.length→ch i=false→bs[i]?=some false:=fun i hi h=>by
  have h:bs[i]?.getD false=false:=h
  rw[hbs i hi]at h⊢
  simpa using h
 have hbase:∀i,i≤bs.length→(∀c,c<i→ch c=false)→hp i=H:=by
  intro i
  induction i with
  |zero=>intros;exact g20
  |succ i ihi=>
   intro hi hcf
   obtain⟨o,ho⟩:=hget i (by omega)
   rw[((g3 i o (by omega) ho).2 (chF i (by omega) (hcf i (by omega)))).2]
   exact ihi (by omega) fun c hc=>hcf c (by omega)
 refine lK (cA hc) bs.length hms htl s rs hp ch ?_ ?_ ?_ ?_ g4 ops.size (Array.replicate ops.size false) s H (by simp) ?_ ?_ ?_ ?_ ?_ ⟨0,Nat.zero_le _,g20.symm,fun c hcm hct=>?_⟩
 ·intro c c' h1 h2 h3 h4
  have:=hx c' (List.mem_range.2 h2)
  obtain⟨o,ho⟩:=hget c' h2
  rw[chT c' h2 h4,ho]at this
  simp only[List.all_eq_true]at this
  have:=this c (List.mem_range.2 h1)
  rw[chT c (by omega) h3]at this
  simpa using this
 ·intro i hi hci
  obtain⟨o,ho⟩:=hget i hi
  exact((g3 i o hi ho).2 (chF i hi hci)).2
 ·intro i o hi ho hci
  exact((g3 i o hi ho).1 (chT i hi hci)).1
 ·intro i o hi ho hci j hj _
  have hfl:=hx i (List.mem_range.2 hi)
  rw[chF i hi hci,ho]at hfl
  refine eh hfl (fun hfirst=>?_) ((g3 i o hi ho).2 (chF i hi hci)).1
  rw[hbase i (by omega) fun c hc=>?_]
  ·exact hext j hj
  ·rw[List.all_eq_true]at hfirst
   have:=hfirst (bs[c]'(by omega)) (by
    rw[List.mem_iff_getElem]
    exact⟨c,by simp;omega,by simp⟩)
   show bs[c]?.getD false=false
   rw[hbs c (by omega)]
   simpa using this
 ·exact Nat.le_trans List.countP_le_length (by simp)
 ·intro t j hj
  have hjl:=et hj
  rw[if_neg (by simp[Array.getD,hjl])]
 ·intro t _;rfl
 ·intro j oj i hoj hl
  have hjl:=(Array.getElem?_eq_some_iff.1 hoj).1
  simp[Array.getD,hjl]at hl
 ·intro i hi hi2
  simp[Array.getD,hi2]
 ·have:c<ops.size:=by omega
  simp[Array.getD,this]
end
def rX(hint:Nat→Bool)(ops:Array Oper)(bs:List Bool)(c0:Nat):Bool:=bs[c0]?==some true&&(List.range bs.length).all fun i=>match bs[i]?,ops[i]? with
 |some false,some o=>jH hint false o||(decide (i<c0)&&cD ops 12 c0 i)
 |some true,some _=>decide (c0≤i)&&(List.range i).all fun c=>bs[c]?==some false||cD ops 12 i c
 |_,_=>false
theorem Ext.nil(H:aa):Ext [] H=True:=eq_true fun id o h _=>by simp at h
section
variable {P:Program} {hint:Nat→Bool} {n:Nat} {ops:Array Oper} {Q:aP}
theorem jg(bs:List Bool)(c0:Nat){H0 H:aa}{id:Nat}{s:Nat→AV}(hm:P.follows .mixedOrders=true)(hc:ee hint ops=true)(ht:eg ops bs.length=true)(hx:rX hint ops bs c0=true)
  (h:dS P hint n ops [] Q bs ops.toList s H):cO P hint n H0 (.region id ops true) Q s H:=by
 obtain⟨hms,htl⟩:=eW ht
 refine⟨hm,?_⟩
 obtain⟨rs,hp,_,g2,g3,g4⟩:=ju (cA hc).H5 s bs 0 (fun _=> .top) (fun _=>H) (by omega) h
 have g20:hp 0=H:=g2 0 (Nat.le_refl _)
 simp only[Nat.zero_add,Nat.sub_zero,Nat.zero_le,true_implies]at g3 g4
 unfold rX at hx
 rw[Bool.and_eq_true,List.all_eq_true]at hx
 obtain⟨hx0,hx⟩:=hx
 have hx0:bs[c0]?=some true:=by simpa using hx0
 have hget:∀i,i<bs.length→∃o,ops[i]?=some o:=fun i hi=>⟨ops[i]'(by omega),by simp[show i<ops.size by omega]⟩
 have hbs:∀i (hi:i<bs.length),bs[i]?=some bs[i]:=fun i hi=>List.getElem?_eq_getElem hi
 let ch:Nat→Bool:=fun i=>bs[i]?.getD false
 have chT:∀i,i<bs.length→ch i=true→bs[i]?=some true:=fun i hi h=>by
  have h:bs[i]?.getD false=true:=h
  rw[hbs i hi]at h⊢
  simpa using h
 have chF:∀i,i<bs.length→ch i=false→bs[i]?=some false:=fun i hi h=>by
  have h:bs[i]?.getD false=false:=h
  rw[hbs i hi]at h⊢
  simpa using h
 have hc0:ch c0=true:=by show bs[c0]?.getD false=true;rw[hx0];rfl
 have hfirst:∀i,i<bs.length→i<c0→ch i=false:=by
  intro i hi hlt
  cases hci:ch i with
  |false=>rfl
  |true=>
   exfalso
   obtain⟨o,ho⟩:=hget i hi
   have:=hx i (List.mem_range.2 hi)
   rw[chT i hi hci,ho]at this
   simp only[Bool.and_eq_true,decide_eq_true_eq]at this
   omega
 have hbase:∀i,i≤bs.length→i≤c0→hp i=H:=by
  intro i
  induction i with
  |zero=>intros;exact g20
  |succ i ihi=>
   intro hi hcf
   obtain⟨o,ho⟩:=hget i (by omega)
   rw[((g3 i o (by omega) ho).2 (chF i (by omega) (hfirst i (by omega) (by omega)))).2]
   exact ihi (by omega) (by omega)
 refine lK (cA hc) bs.length hms htl s rs hp ch ?_ ?_ ?_ ?_ g4 ops.size (Array.replicate ops.size false) s H (by simp) ?_ ?_ ?_ ?_ ?_ ⟨0,Nat.zero_le _,g20.symm,fun c hcm hct=>?_⟩
 ·intro c c' h1 h2 h3 h4
  have:=hx c' (List.mem_range.2 h2)
  obtain⟨o,ho⟩:=hget c' h2
  rw[chT c' h2 h4,ho]at this
  simp only[Bool.and_eq_true,List.all_eq_true]at this
  have:=this.2 c (List.mem_range.2 h1)
  rw[chT c (by omega) h3]at this
  simpa using this
 ·intro i hi hci
  obtain⟨o,ho⟩:=hget i hi
  exact((g3 i o hi ho).2 (chF i hi hci)).2
 ·intro i o hi ho hci
  exact((g3 i o hi ho).1 (chT i hi hci)).1
 ·intro i o hi ho hci j hj hnr
  have hfl:=hx i (List.mem_range.2 hi)
  rw[chF i hi hci,ho]at hfl
  simp only[Bool.or_eq_true,Bool.and_eq_true,decide_eq_true_eq]at hfl
  have hs:=((g3 i o hi ho).2 (chF i hi hci)).1
  rcases hfl with hfl|⟨hlt,hre⟩
  ·exact eh hfl (fun hf=>by cases hf) hs
  ·have hjc:j≤c0:=by
    rcases Nat.lt_or_ge c0 j with h1|h1
    ·have:=hnr c0 h1 hc0
     rw[hre]at this;cases this
    ·exact h1
   rw[hbase j hj hjc]
   rw[hbase i (by omega) (by omega)]at hs
   exact hs
 ·exact Nat.le_trans List.countP_le_length (by simp)
 ·intro t j hj
  have hjl:=et hj
  rw[if_neg (by simp[Array.getD,hjl])]
 ·intro t _;rfl
 ·intro j oj i hoj hl
  have hjl:=(Array.getElem?_eq_some_iff.1 hoj).1
  simp[Array.getD,hjl]at hl
 ·intro i hi hi2
  simp[Array.getD,hi2]
 ·have:c<ops.size:=by omega
  simp[Array.getD,this]
end
section
variable (P:Program) (hint:Nat→Bool) (n:Nat) (ops:Array Oper) (Q:aP) (rest:List Oper) (s:Nat→AV) (H B:aa) (bs:List Bool)
def Eo(b:Bool)(d:Option Tmp)(H0:aa):AV→aa→Prop:=fun r H'=>(match b with|true=>Ext B H'|false=>H'=H0)∧dS P hint n ops B Q bs rest (bJ n s d r) H'
theorem B7(d:Option Tmp)(H0:aa)(r:AV):Eo P hint n ops Q rest s B bs true d H0 r H=(Ext B H∧dS P hint n ops B Q bs rest (bJ n s d r) H):=rfl
theorem yY(d:Option Tmp)(H0:aa)(r:AV):Eo P hint n ops Q rest s B bs false d H0 r H=(H=H0∧dS P hint n ops B Q bs rest (bJ n s d r) H):=rfl
theorem x4(l:List Oper):dS P hint n ops B Q [] l s H=aV P hint n ops Q l s H:=by cases l<;>rfl
theorem vq(b:Bool)(d:Option Tmp)(op:Op)(ty:TypeId)(p:String)(af:Array Edge):dS P hint n ops B Q (b::bs) (⟨d,op,ty,p,af,none⟩::rest) s H=ay P hint s H ⟨d,op,ty,p,af,none⟩ (Eo P hint n ops Q rest s B bs b d H) CE:=by
 cases b<;>simp only[dS,c8]<;>rfl
theorem Ce(l:List Oper):dS P hint n ops B Q bs l.toArray.toList s H=dS P hint n ops B Q bs l s H:=rfl
end
@[congr] theorem JD {P:Program} {hint:Nat→Bool} {n:Nat} {ops:Array Oper} {Q:aP} {bs:List Bool} {l:List Oper} {s:Nat→AV} {B H H':aa} (h:nf H=H'):dS P hint n ops B Q bs l s H=dS P hint n ops B Q bs l s H':=by rw[←h];rfl
@[congr] theorem Jk {P:Program} {hint:Nat→Bool} {n:Nat} {ops:Array Oper} {Q:aP} {rest:List Oper} {s:Nat→AV} {bs:List Bool} {b:Bool} {d:Option Tmp} {B H0 H H':aa} {r r':AV} (g:nf r=r') (h:nf H=H'):Eo P hint n ops Q rest s B bs b d H0 r H=Eo P hint n ops Q rest s B bs b d H0 r' H':=by rw[←g,←h];rfl
attribute [go_sem] Ext.nil B7 yY x4 vq Ce
section
variable (P:Program) (hint:Nat→Bool) (n:Nat) (ops:Array Oper)
def cv(B:aa)(Q:aP):List (Option Bool)→List Oper→(Nat→AV)→aa→Prop
 |[],l,s,H=>aV P hint n ops Q l s H
 |_::_,[],s,H=>aV P hint n ops Q [] s H
 |some true::bs,o::rest,s,H=>c8 P hint n ops (fun _ _ _=>False) o (fun s' H'=>Ext B H'∧cv B Q bs rest s' H') s H
 |some false::bs,o::rest,s,H=>c8 P hint n ops (fun _ _ _=>False) o (fun s' H'=>H'=H∧cv B Q bs rest s' H') s H
 |none::bs,o::rest,s,H=>c8 P hint n ops (fun _ _ _=>False) o (fun s' H'=>H'=B∧cv B Q bs rest s' H) s B
end
section
variable {P:Program} {hint:Nat→Bool} {n:Nat} {ops:Array Oper} {Q:aP}
theorem lb{B:aa}(hdt:∀(i:Nat) (o:Oper),ops[i]?=some o→j7 hint o.op=true)(s0:Nat→AV):∀(bs:List (Option Bool)) (k:Nat) (rs0:Nat→AV) (hp0:Nat→aa),k+bs.length≤ops.size→cv P hint n ops B Q bs (ops.toList.drop k) (bF n ops s0 rs0 k) (hp0 k)→
  ∃(rs:Nat→AV) (hp:Nat→aa),(∀i,i<k→rs i=rs0 i)∧(∀i,i≤k→hp i=hp0 i)∧
   (∀i o,k≤i→i<k+bs.length→ops[i]?=some o→(bs[i-k]?=some (some true)→cj P hint n ops (hp i) (bF n ops s0 rs i) o (rs i) (hp (i+1))∧Ext B (hp (i+1)))∧
    (bs[i-k]?=some (some false)→cj P hint n ops (hp i) (bF n ops s0 rs i) o (rs i) (hp i)∧hp (i+1)=hp i)∧
    (bs[i-k]?=some none→cj P hint n ops B (bF n ops s0 rs i) o (rs i) B∧hp (i+1)=hp i))∧
   aV P hint n ops Q (ops.toList.drop (k+bs.length)) (bF n ops s0 rs (k+bs.length)) (hp (k+bs.length))
 |[],k,rs0,hp0,hk,h=>⟨rs0,hp0,fun _ _=>rfl,fun _ _=>rfl,fun i o h1 h2=>by simp at h2;omega,by
   have h:aV P hint n ops Q (ops.toList.drop k) (bF n ops s0 rs0 k) (hp0 k):=by
    cases hd:ops.toList.drop k<;>(rw[hd]at h;exact h)
   exact h⟩
 |b::bs,k,rs0,hp0,hk,h=>by
  simp only[List.length_cons]at hk
  have hlt:k<ops.size:=by omega
  have hget:ops[k]?=some ops[k]:=by simp[hlt]
  have hd:ops.toList.drop k=ops[k]::ops.toList.drop (k+1):=by
   rw[List.drop_eq_getElem_cons (by simpa using hlt)];simp
  rw[hd]at h
  have hdst:bj ops k=(ops[k]).dst:=by simp[bj,hget]
  have step:∃r H',((b=some true→cj P hint n ops (hp0 k) (bF n ops s0 rs0 k) ops[k] r H'∧Ext B H')∧(b=some false→cj P hint n ops (hp0 k) (bF n ops s0 rs0 k) ops[k] r (hp0 k)∧H'=hp0 k)∧(b=none→cj P hint n ops B (bF n ops s0 rs0 k) ops[k] r B∧H'=hp0 k))∧cv P hint n ops B Q bs (ops.toList.drop (k+1)) (bJ n (bF n ops s0 rs0 k) (ops[k]).dst r) H':=by
   match b,h with
   |some true,h=>
    obtain⟨r,H',h1,h2,h3⟩:=jv (hdt k _ hget) h
    exact⟨r,H',⟨fun _=>⟨h1,h2⟩,fun e=>(by cases e),fun e=>(by cases e)⟩,h3⟩
   |some false,h=>
    obtain⟨r,H',h1,rfl,h3⟩:=jv (hdt k _ hget) h
    exact⟨r,_,⟨fun e=>(by cases e),fun _=>⟨h1,rfl⟩,fun e=>(by cases e)⟩,h3⟩
   |none,h=>
    obtain⟨r,H',h1,rfl,h3⟩:=jv (hdt k _ hget) h
    exact⟨r,_,⟨fun e=>(by cases e),fun e=>(by cases e),fun _=>⟨h1,rfl⟩⟩,h3⟩
  obtain⟨r,H',⟨h1,h2,h3⟩,h4⟩:=step
  let rs1:Nat→AV:=fun i=>if i=k then r else rs0 i
  let hp1:Nat→aa:=fun i=>if i=k+1 then H' else hp0 i
  have e1:rs1 k=r:=if_pos rfl
  have e2:hp1 (k+1)=H':=if_pos rfl
  have hst:∀(rs:Nat→AV) i,i≤k→(∀j,j<i→rs j=rs0 j)→bF n ops s0 rs i=bF n ops s0 rs0 i:=by
   intro rs i
   induction i with
   |zero=>intros;rfl
   |succ i ih=>
    intro hi hr
    simp only[bF,ih (by omega) fun j hj=>hr j (by omega),hr i (by omega)]
  have h5:cv P hint n ops B Q bs (ops.toList.drop (k+1)) (bF n ops s0 rs1 (k+1)) (hp1 (k+1)):=by
   rw[e2]
   simp only[bF,e1,hdst]
   rw[hst rs1 k (Nat.le_refl _) fun j hj=>if_neg (by omega)]
   exact h4
  obtain⟨rs,hp,g1,g2,g3,g4⟩:=lb hdt s0 bs (k+1) rs1 hp1 (by omega) h5
  have f1:∀i,i<k→rs i=rs0 i:=fun i hi=>by rw[g1 i (by omega)];exact if_neg (by omega)
  have f2:∀i,i≤k→hp i=hp0 i:=fun i hi=>by rw[g2 i (by omega)];exact if_neg (by omega)
  have f3:rs k=r:=by rw[g1 k (by omega)];exact e1
  have f4:hp (k+1)=H':=by rw[g2 (k+1) (by omega)];exact e2
  refine⟨rs,hp,f1,f2,fun i o hi hi2 ho=>?_,by rw[List.length_cons,show k+(bs.length+1)=k+1+bs.length from by omega];exact g4⟩
  rcases Nat.lt_or_ge k i with hki|hki
  ·have:=g3 i o hki (by simp only[List.length_cons]at hi2;omega) ho
   rw[show i-k=(i-(k+1))+1 from by omega,List.getElem?_cons_succ]
   exact this
  ·obtain rfl:i=k:=by omega
   rw[hget]at ho
   cases ho
   rw[Nat.sub_self,List.getElem?_cons_zero,f2 i (Nat.le_refl _),f3,f4,hst rs i (Nat.le_refl _) fun j hj=>f1 j hj]
   refine⟨fun e=>h1 (Option.some.inj e),fun e=>?_,fun e=>h3 (Option.some.inj e)⟩
   obtain⟨g1,g2⟩:=h2 (Option.some.inj e)
   exact⟨g1,g2⟩
end
def q8(hint:Nat→Bool)(ops:Array Oper)(bs:List (Option Bool))(c0:Nat):Bool:=bs[c0]?==some (some true)&&(List.range bs.length).all fun i=>match bs[i]?,ops[i]? with
 |some (some false),some o=>jH hint false o||(decide (i<c0)&&cD ops 12 c0 i)
 |some none,some o=>jH hint true o
 |some (some true),some _=>decide (c0≤i)&&(List.range i).all fun c=>bs[c]?==some (some false)||bs[c]?==some none||cD ops 12 i c
 |_,_=>false
section
variable {P:Program} {hint:Nat→Bool} {n:Nat} {ops:Array Oper} {Q:aP}
theorem dr(bs:List (Option Bool))(c0:Nat)(B:aa){H0 H:aa}{id:Nat}{s:Nat→AV}(hm:P.follows .mixedOrders=true)(hc:ee hint ops=true)(ht:eg ops bs.length=true)(hx:q8 hint ops bs c0=true)(hB:Ext B H)
  (h:cv P hint n ops B Q bs ops.toList s H):cO P hint n H0 (.region id ops true) Q s H:=by
 obtain⟨hms,htl⟩:=eW ht
 refine⟨hm,?_⟩
 obtain⟨rs,hp,_,g2,g3,g4⟩:=lb (cA hc).H5 s bs 0 (fun _=> .top) (fun _=>H) (by omega) h
 have g20:hp 0=H:=g2 0 (Nat.le_refl _)
 simp only[Nat.zero_add,Nat.sub_zero,Nat.zero_le,true_implies]at g3 g4
 unfold q8 at hx
 rw[Bool.and_eq_true,List.all_eq_true]at hx
 obtain⟨hx0,hx⟩:=hx
 have hx0:bs[c0]?=some (some true):=by simpa using hx0
 have hget:∀i,i<bs.length→∃o,ops[i]?=some o:=fun i hi=>⟨ops[i]'(by omega),by simp[show i<ops.size by omega]⟩
 have hbs:∀i (hi:i<bs.length),bs[i]?=some bs[i]:=fun i hi=>List.getElem?_eq_getElem hi
 let ch:Nat→Bool:=fun i=>bs[i]?==some (some true)
 have chT:∀i,ch i=true→bs[i]?=some (some true):=fun i h=>by
  have h:(bs[i]?==some (some true))=true:=h
  simpa using h
 have chF:∀i,i<bs.length→ch i=false→bs[i]?=some (some false)∨bs[i]?=some none:=fun i hi h=>by
  have h:(bs[i]?==some (some true))=false:=h
  rw[hbs i hi]at h⊢
  rcases hb:bs[i]with _|_|_
  ·exact .inr rfl
  ·exact .inl rfl
  ·rw[hb]at h;simp at h
 have hstay:∀i o,i<bs.length→ops[i]?=some o→ch i=false→hp (i+1)=hp i:=fun i o hi ho hci=>by
  rcases chF i hi hci with h|h
  ·exact((g3 i o hi ho).2.1 h).2
  ·exact((g3 i o hi ho).2.2 h).2
 have hext:∀j,j≤bs.length→Ext B (hp j):=by
  intro j
  induction j with
  |zero=>intro _;rw[g20];exact hB
  |succ j ihj=>
   intro hj
   obtain⟨o,ho⟩:=hget j (by omega)
   cases hcj:ch j with
   |true=>exact((g3 j o (by omega) ho).1 (chT j hcj)).2
   |false=>rw[hstay j o (by omega) ho hcj];exact ihj (by omega)
 have hc0:ch c0=true:=by show(bs[c0]?==some (some true))=true;rw[hx0];rfl
 have hfirst:∀i,i<bs.length→i<c0→ch i=false:=by
  intro i hi hlt
  cases hci:ch i with
  |false=>rfl
  |true=>
   exfalso
   obtain⟨o,ho⟩:=hget i hi
   have:=hx i (List.mem_range.2 hi)
   rw[chT i hci,ho]at this
   simp only[Bool.and_eq_true,decide_eq_true_eq]at this
   omega
 have hbase:∀i,i≤bs.length→i≤c0→hp i=H:=by
  intro i
  induction i with
  |zero=>intros;exact g20
  |succ i ihi=>
   intro hi hcf
   obtain⟨o,ho⟩:=hget i (by omega)
   rw[hstay i o (by omega) ho (hfirst i (by omega) (by omega))]
   exact ihi (by omega) (by omega)
 refine lK (cA hc) bs.length hms htl s rs hp ch ?_ ?_ ?_ ?_ g4 ops.size (Array.replicate ops.size false) s H (by simp) ?_ ?_ ?_ ?_ ?_ ⟨0,Nat.zero_le _,g20.symm,fun c hcm hct=>?_⟩
 ·intro c c' h1 h2 h3 h4
  have:=hx c' (List.mem_range.2 h2)
  obtain⟨o,ho⟩:=hget c' h2
  rw[chT c' h4,ho]at this
  simp only[Bool.and_eq_true,List.all_eq_true]at this
  have:=this.2 c (List.mem_range.2 h1)
  rw[chT c h3]at this
  simpa using this
 ·intro i hi hci
  obtain⟨o,ho⟩:=hget i hi
  exact hstay i o hi ho hci
 ·intro i o hi ho hci
  exact((g3 i o hi ho).1 (chT i hci)).1
 ·intro i o hi ho hci j hj hnr
  have hfl:=hx i (List.mem_range.2 hi)
  rcases chF i hi hci with hk|hk
  ·rw[hk,ho]at hfl
   simp only[Bool.or_eq_true,Bool.and_eq_true,decide_eq_true_eq]at hfl
   have hs:=((g3 i o hi ho).2.1 hk).1
   rcases hfl with hfl|⟨hlt,hre⟩
   ·exact eh hfl (fun hf=>by cases hf) hs
   ·have hjc:j≤c0:=by
     rcases Nat.lt_or_ge c0 j with h1|h1
     ·have:=hnr c0 h1 hc0
      rw[hre]at this;cases this
     ·exact h1
    rw[hbase j hj hjc]
    rw[hbase i (by omega) (by omega)]at hs
    exact hs
  ·rw[hk,ho]at hfl
   exact eh (first:=true) hfl (fun _=>hext j hj) ((g3 i o hi ho).2.2 hk).1
 ·exact Nat.le_trans List.countP_le_length (by simp)
 ·intro t j hj
  have hjl:=et hj
  rw[if_neg (by simp[Array.getD,hjl])]
 ·intro t _;rfl
 ·intro j oj i hoj hl
  have hjl:=(Array.getElem?_eq_some_iff.1 hoj).1
  simp[Array.getD,hjl]at hl
 ·intro i hi hi2
  simp[Array.getD,hi2]
 ·have:c<ops.size:=by omega
  simp[Array.getD,this]
end
section
variable (P:Program) (hint:Nat→Bool) (n:Nat) (ops:Array Oper) (Q:aP) (rest:List Oper) (s:Nat→AV) (H B:aa) (bs:List (Option Bool))
def qa(b:Option Bool)(d:Option Tmp)(H0:aa):AV→aa→Prop:=fun r H'=>(match b with|some true=>Ext B H'∧cv P hint n ops B Q bs rest (bJ n s d r) H'|some false=>H'=H0∧cv P hint n ops B Q bs rest (bJ n s d r) H'|none=>H'=B∧cv P hint n ops B Q bs rest (bJ n s d r) H0)
theorem yx(d:Option Tmp)(H0:aa)(r:AV):qa P hint n ops Q rest s B bs (some true) d H0 r H=(Ext B H∧cv P hint n ops B Q bs rest (bJ n s d r) H):=rfl
theorem uK(d:Option Tmp)(H0:aa)(r:AV):qa P hint n ops Q rest s B bs (some false) d H0 r H=(H=H0∧cv P hint n ops B Q bs rest (bJ n s d r) H):=rfl
theorem yV(d:Option Tmp)(H0:aa)(r:AV):qa P hint n ops Q rest s B bs none d H0 r H=(H=B∧cv P hint n ops B Q bs rest (bJ n s d r) H0):=rfl
theorem wU(l:List Oper):cv P hint n ops B Q [] l s H=aV P hint n ops Q l s H:=by cases l<;>rfl
theorem te(b:Bool)(d:Option Tmp)(op:Op)(ty:TypeId)(p:String)(af:Array Edge):cv P hint n ops B Q (some b::bs) (⟨d,op,ty,p,af,none⟩::rest) s H=ay P hint s H ⟨d,op,ty,p,af,none⟩ (qa P hint n ops Q rest s B bs (some b) d H) CE:=by
 cases b<;>simp only[cv,c8]<;>rfl
theorem tS(d:Option Tmp)(op:Op)(ty:TypeId)(p:String)(af:Array Edge):cv P hint n ops B Q (none::bs) (⟨d,op,ty,p,af,none⟩::rest) s H=ay P hint s B ⟨d,op,ty,p,af,none⟩ (qa P hint n ops Q rest s B bs none d H) CE:=by
 simp only[cv,c8]<;>rfl
theorem yb(l:List Oper):cv P hint n ops B Q bs l.toArray.toList s H=cv P hint n ops B Q bs l s H:=rfl
theorem Ext.Jz(T:aa):Ext B (B++T)=True:=eq_true (Ext.app B T)
theorem Ext.IH:Ext B B=True:=eq_true (Ext.refl B)
end
@[congr] theorem Jl {P:Program} {hint:Nat→Bool} {n:Nat} {ops:Array Oper} {Q:aP} {bs:List (Option Bool)} {l:List Oper} {s:Nat→AV} {B H H':aa} (h:nf H=H'):cv P hint n ops B Q bs l s H=cv P hint n ops B Q bs l s H':=by rw[←h];rfl
@[congr] theorem I5 {P:Program} {hint:Nat→Bool} {n:Nat} {ops:Array Oper} {Q:aP} {rest:List Oper} {s:Nat→AV} {bs:List (Option Bool)} {b:Option Bool} {d:Option Tmp} {B H0 H H':aa} {r r':AV} (g:nf r=r') (h:nf H=H'):qa P hint n ops Q rest s B bs b d H0 r H=qa P hint n ops Q rest s B bs b d H0 r' H':=by rw[←g,←h];rfl
attribute [go_sem] Ext.Jz Ext.IH yx uK yV wU te tS yb
theorem bp.Hc{P:Program}{rs:List ResultVar}{H T:aa}{s:Nat→AV}{r:AV}{id:Nat}{y:aA}(hy:y.below H.length=true)
  (h:ob (aK P (H.set id y++T) s rs) fun avs=>r=iz (List.range avs.length) fun t=>p6 (H.set id y++T) H.length (avs.getD t .top)):bp P rs H (.ok r) (H.set id y) .ret s (H.set id y++T):=by
 cases e:aK P (H.set id y++T) s rs with
 |none=>rw[e]at h;exact h.elim
 |some avs=>
  rw[e]at h
  have hw:=ar.vj (H0:=H) (fun t=>avs.getD t .top) (H.set id y++T) H.length (Nat.le_refl _) (by simp) fun i o hi ho=>by
   rw[List.getElem?_append_left (by simpa using hi),List.getElem?_set]at ho
   by_cases hj:id=i
   ·rw[if_pos hj]at ho
    split at ho
    ·cases ho;exact .inr hy
    ·cases ho
   ·rw[if_neg hj]at ho
    exact .inl ho
  rw[show(H.set id y++T).take H.length=H.set id y from List.take_left' (by simp)]at hw
  exact⟨avs,_,e,hw,by rw[h]⟩
theorem si.mono{P:Program}{f:FuncId}{vals:Array Value}{w:World}{R R':Ending→World→Prop}(h:si P f vals w R)(hR:∀e w',R e w'→R' e w'):si P f vals w R':=by
 rcases h with⟨h1,h2⟩|⟨v,w',h1,h2⟩
 ·exact .inl ⟨h1,h2.mono hR⟩
 ·exact .inr ⟨v,w',h1,hR _ _ h2⟩
def zi(r:AV):Nat→AV:=fun t=>if t=0 then r else .top
theorem ag.Hg{P:Program}{f:FuncId}{args:List AV}{H H1 H2:aa}{r:AV}{s':Nat→AV}(h:ag P f args H (.ok r) H1)(hW:ar H (zi r) H1 s' H2):ag P f args H (.ok (s' 0)) H2:=by
 intro φ N w vals hR hA
 refine(h φ N w vals hR hA).mono ?_
 rintro e w' ⟨φ1,N1,hR1,hS1,hE⟩
 cases e with
 |returned v=>
  have hI:Inv H φ N w 1 ⟨true,[]⟩ (zi r) H1 φ1 N1 {tmps:=#[v],defers:=[]} w':=by
   refine⟨hR1,fun t=>?_,hS1,rfl,gK.refl⟩
   unfold zi
   by_cases ht:t=0
   ·subst ht;exact hE
   ·rw[if_neg ht];exact .top _
  obtain⟨φ2,N2,hI2⟩:=hW.ok hR hI
  exact⟨φ2,N2,hI2.rel,hI2.since,hI2.tmps 0⟩
 |panicked _=>exact hE.elim
 |outgrown=>exact hE.elim
theorem ag.drop{P:Program}{f:FuncId}{args:List AV}{H T:aa}{r:AV}(h:ag P f args H (.ok r) (H++T)):ag P f args H (.ok (p6 (H++T) H.length r)) H:=h.Hg (ar.drop H T _)
theorem E9(H:aa)(e:TypeId)(k v n:Nat)(es:List (List D))(h:es.length=n):p6 (H++[.arr e k v es]) H.length (.sl H.length v 0 n)= .d (.list false es):=by
 rw[ud,oO,if_neg (Nat.lt_irrefl _),ld]
 simp only[if_true,List.drop_zero]
 rw[dD _ _ h]
theorem ag.list{P:Program}{f:FuncId}{args:List AV}{H:aa}{e:TypeId}{k v n:Nat}{es:List (List D)}(h:ag P f args H (.ok (.sl H.length v 0 n)) (H++[.arr e k v es]))(hn:es.length=n):ag P f args H (.ok (.d (.list false es))) H:=by
 have:=h.drop
 rwa[E9 _ _ _ _ _ _ hn]at this
theorem aw.Kr{rs:List Tmp}{H H' T:aa}{s:Nat→AV}{r:AV}(e:H'=H++T)(h:r=iz rs fun t=>p6 H' H.length (s t)):aw rs H (.ok r) H .ret s H':=by subst e;exact aw.ret h
theorem ag.imp{P:Program}{f:FuncId}{args:List AV}{H H':aa}{r r':AV}(h:ag P f args H (.ok r) H')(hr:∀φ N w v,RA H' φ N w r v→RA H' φ N w r' v):ag P f args H (.ok r') H':=by
 have:=h.Hg (s':=zi r') (.imp _ _ _ fun φ N w u v hv=>?_)
 ·exact this
 ·unfold zi at hv⊢
  by_cases hu:u=0
  ·rw[if_pos hu]at hv⊢;exact hr _ _ _ _ hv
  ·rw[if_neg hu]at hv⊢;exact hv
theorem RA.GI{H:aa}{φ:aN}{N:Addr→Prop}{w:World}{cs cs':List AV}{v:Value}(hs:lL cs cs')(h:RA H φ N w (.bf cs) v):RA H φ N w (.bf cs') v:=by
 cases h with
 |bf cs vs hl hh=>exact .bf _ vs (hs.len.symm.trans hl) fun i h1 h2=>hs.ra i (by rw[hs.len];exact h1) h1 (hh i (by rw[hs.len];exact h1) h2)
theorem ag.bY{P:Program}{f:FuncId}{args:List AV}{H H':aa}{cs cs':List AV}(h:ag P f args H (.ok (.bf cs)) H')(hs:lL cs cs'):ag P f args H (.ok (.bf cs')) H':=h.imp fun _ _ _ _ hv=>hv.GI hs
theorem RA.empty{H:aa}{φ:aN}{N:Addr→Prop}{w:World}{v:Value}(h:RA H φ N w (.d (.list false [])) v):RA H φ N w (.d (.v (.slice none 0 0))) v∨RA H φ N w (.d (.list true [])) v:=by
 cases h with
 |d h=>
  cases h with
  |nil A c hA=>
   cases A with
   |none=>rw[hA rfl];exact .inl (.d (.v _ rfl))
   |some ad=>exact .inr (.d (RD.list true [] ad c 0 (fun _ _=>undef) (Nat.zero_le _) (fun e he=>by simp at he) (fun i j hi=>by simp at hi) (fun i hi=>by simp at hi)))
  |list _ _ ad cap k c hc hk hh hd=>exact .inr (.d (RD.list true [] ad cap k c hc hk hh hd))
theorem ag.CZ{P:Program}{f:FuncId}{H H':aa}{res:jQ}(pre post:List AV)(h1:ag P f (pre++ .d (.v (.slice none 0 0))::post) H res H')(h2:ag P f (pre++ .d (.list true [])::post) H res H'):ag P f (pre++ .d (.list false [])::post) H res H':=by
 intro φ N w vals hR hA
 have hlt:pre.length<vals.size:=by rw[←hA.1];simp
 have h0:=hA.2 pre.length (by simp) hlt
 simp only[List.getElem_append_right (Nat.le_refl _),Nat.sub_self,List.getElem_cons_zero]at h0
 have go:∀x,RA H φ N w x (vals[pre.length])→qz H φ N w (pre++x::post) vals:=fun x hx=>by
  refine⟨by rw[←hA.1];simp,fun i g1 g2=>?_⟩
  have h3:=hA.2 i (by simpa using g1) g2
  by_cases hi:i=pre.length
  ·subst hi
   simp only[List.getElem_append_right (Nat.le_refl _),Nat.sub_self,List.getElem_cons_zero]
   exact hx
  ·rcases Nat.lt_or_ge i pre.length with hlt2|hge
   ·rw[List.getElem_append_left hlt2]at h3⊢;exact h3
   ·rw[List.getElem_append_right hge]at h3⊢
    obtain⟨j,hj⟩:∃j,i-pre.length=j+1:=⟨i-pre.length-1,by omega⟩
    simp only[hj,List.getElem_cons_succ]at h3⊢
    exact h3
 rcases RA.empty h0 with h|h
 ·exact h1 φ N w vals hR (go _ h)
 ·exact h2 φ N w vals hR (go _ h)
theorem Cx{P:Program}(d:Nat)(t e:TypeId)(h:P.underlying t=some (.slice e))(w:World):(Op.equalIn (d+1) t (.slice none 0 0) (.slice none 0 0)).run P w= .ok true w:=by simp[Op.equalIn,run_underlying h]
theorem ym{P:Program}{t e:TypeId}(hu:P.underlying t=some (.slice e)):bX P .eql t (.slice none 0 0) (.slice none 0 0) (.bool true):=fun x y w=>by
 have hg:(eqGuard .eql t x y (.slice none 0 0) (.slice none 0 0)).run P w= .ok () w:=by simp[eqGuard]
 have he:(Op.equal t (.slice none 0 0) (.slice none 0 0)).run P w= .ok true w:=Cx 9999 t e hu w
 rw[Sem.run_bind,hg]
 simp only[Result.andThen_ok,Go.binOp]
 simp[he]
theorem Ci{P:Program}{t e:TypeId}(hu:P.underlying t=some (.slice e))(K:Value→Prop):cF P .eql t (.slice none 0 0) (.slice none 0 0) K=K (.bool true):=by
 have h:=ym hu
 have:cF P .eql t (.slice none 0 0) (.slice none 0 0) K=∃r,bX P .eql t (.slice none 0 0) (.slice none 0 0) r∧K r:=by unfold cF;rfl
 rw[this]
 exact propext ⟨fun⟨r',h',k⟩=>by rw[h.inj h'];exact k,fun k=>⟨_,h,k⟩⟩
def Ez(I:(Nat→AV)→aa→Prop):aP:=fun e s H=>match e with| .normal=>I s H|_=>False
theorem vG(I:(Nat→AV)→aa→Prop)(s:Nat→AV)(H:aa):Ez I .normal s H=I s H:=rfl
attribute [go_sem] vG
section
variable {P:Program} {hint:Nat→Bool} {n:Nat} {H0:aa} {Q:aP} {s:Nat→AV} {H:aa}
theorem mj{x y:Code}(I:(Nat→AV)→aa→Prop)(hh:ea hint y=false)(h1:cO P hint n H0 x (Ez I) s H)(h2:∀s H,I s H→cO P hint n H0 y Q s H):cO P hint n H0 x (jP P hint n H0 y Q) s H:=by
 refine je x (fun e s H h=>?_) s H h1
 cases e with
 |normal=>rw[df,hh,gw];exact h2 s H h
 |_=>exact h.elim
theorem Az{x x' y:Code}{b:Bool}(I:(Nat→AV)→aa→Prop)(hh:ea hint y=false)(h1:mR (some b) (cO P hint n H0 x (Ez I) s H) (cO P hint n H0 x' (Ez I) s H))(h2:∀s H,I s H→cO P hint n H0 y Q s H):
  mR (some b) (cO P hint n H0 x (jP P hint n H0 y Q) s H) (cO P hint n H0 x' (jP P hint n H0 y Q) s H):=by
 cases b
 ·exact mj I hh h1 h2
 ·exact mj I hh h1 h2
theorem pJ{x y:Code}{b:Nat}(I:(Nat→AV)→aa→Prop)(hh:ea hint y=false)(h1:cO P hint n H0 x (dc b (Ez I)) s H)(h2:∀s H,I s H→cO P hint n H0 y Q s H):cO P hint n H0 x (dc b (jP P hint n H0 y Q)) s H:=by
 refine je x (fun e s H h=>?_) s H h1
 cases e with
 |normal=>show jP P hint n H0 y Q .normal s H;rw[df,hh,gw];exact h2 s H h
 |exit i=>
  rw[hH]at h⊢
  by_cases hi:i=b
  ·rw[if_pos hi]at h⊢;rw[df,hh,gw];exact h2 s H h
  ·rw[if_neg hi]at h;exact h.elim
 |_=>exact h.elim
end
end Go.Proofs.YtmbagpfmfiegkaaGreatAw
namespace Go.Proofs.YtmbagpfmfiegkaaGreat
open Go.Proofs.YtmbagpfmfiegkaaGreatAw Go.RowKit
def dA:ByteArray:=⟨#[]⟩
theorem Ba(v:ai):my v.kind v.i v.s 0 0 dA=decide (v=⟨0,0,dA⟩):=ky v ⟨0,0,dA⟩
theorem gr:dA.toList=[]:=by rw[ByteArray.toList_eq];rfl
theorem fW(s:ByteArray):s.toList=[]↔s=dA:=⟨fun h=>toList_inj (by rw[h,gr]),fun h=>by rw[h];exact gr⟩
theorem Ef(v:ai)(h0:v.kind=0):(v=⟨0,0,dA⟩)=(v.i=0∧v.s.toList=[]):=by
 cases v with|mk k i s=>
 simp only at h0
 subst h0
 simp[fW]
structure Zn where
 rows:Nat
 az:Nat
 mn:ai
 mx:ai
deriving DecidableEq
def Zn.cs(z:Zn):List AV:=[iA z.rows,iA z.az,iA z.mn.kind,iA z.mn.i,sA z.mn.s,iA z.mx.kind,iA z.mx.i,sA z.mx.s]
def dQ(z:Zn)(v:ai):Zn:=if z.mn.kind=0 then⟨z.rows,z.az,v,v⟩else z
def ec(z:Zn)(v:ai):Zn:=if aO v z.mn<0 then⟨z.rows,z.az,v,z.mx⟩else z
def fh(z:Zn)(v:ai):Zn:=if 0<aO v z.mx then⟨z.rows,z.az,z.mn,v⟩else z
def aI(z:Zn)(v:ai):Zn:=if v.kind=0 then⟨z.rows,z.az+1,z.mn,z.mx⟩else fh (ec (dQ z v) v) v
def aZ(l:List ai):Zn:=l.foldl aI ⟨l.length,0,⟨0,0,dA⟩,⟨0,0,dA⟩⟩
theorem pH(z:Zn)(v:ai):(aI z v).az≤z.az+1:=by
 have e1:(dQ z v).az=z.az:=by unfold dQ;split<;>rfl
 have e2:∀z,(ec z v).az=z.az:=fun z=>by unfold ec;split<;>rfl
 have e3:∀z,(fh z v).az=z.az:=fun z=>by unfold fh;split<;>rfl
 unfold aI
 split
 ·exact Nat.le_refl _
 ·rw[e3,e2,e1];omega
theorem AU(l:List ai)(nn:Bool)(hl:l.length≤1000000000)(H:aa):ag Tryz.prog 32 [.d (.list nn (l.map ai.enc))] H (.ok (.agg (aZ l).cs)) H:=by
 refine ag.bL (hint:=fun _=>false) Tryz.func32 (by kernel_rfl) rfl [.cell 2 27] (by kernel_rfl) (by simp[Tryz.ntmps32]) ?_
 rw[Tryz.ntmps32]
 have hnl:∀k,k≤l.length→((l.take k).foldl aI ⟨l.length,0,⟨0,0,dA⟩,⟨0,0,dA⟩⟩).az≤k:=by
  intro k
  induction k with
  |zero=>intro _;simp
  |succ k ih=>
   intro hk
   rw[List.take_succ_eq_append_getElem (by omega),List.foldl_append]
   have:=pH ((l.take k).foldl aI ⟨l.length,0,⟨0,0,dA⟩,⟨0,0,dA⟩⟩) l[k]
   have:=ih (by omega)
   simp only[List.foldl_cons,List.foldl_nil]
   omega
 simp -implicitDefEqProofs only[↓reduceIte,go_sem,ak,Nat.reduceAdd,Nat.reduceLT,Nat.reduceLeDiff,Nat.reduceEqDiff,reduceCtorEq,eq_self,List.length_map]
 refine bl (fun k s H'=>∃z:Zn,z=(l.take k).foldl aI ⟨l.length,0,⟨0,0,dA⟩,⟨0,0,dA⟩⟩∧H'=H++[.box 27 8 0 1 [iA 0,iA 0,iA 0,iA 0,sA ⟨#[]⟩,iA 0,iA 0,sA ⟨#[]⟩],.box 27 8 0 1 z.cs]∧s 2= .ptr H.length 0 0 0∧s 3= .ptr (H.length+1) 0 0 0∧s 9= .d (.list nn (l.map ai.enc))∧s 10=iA l.length∧s 11=iA k) l.length (by omega) (ar.refl _ _) ?_ ?_ ?_
 ·refine⟨⟨l.length,0,⟨0,0,dA⟩,⟨0,0,dA⟩⟩,rfl,rfl,?_⟩
  simp -implicitDefEqProofs only[↓reduceIte,go_sem,Nat.reduceLT,Nat.reduceEqDiff,eq_self]
 ·rintro k s H' hk hw ⟨z,hz,rfl,t2,t3,t9,t10,t11⟩
  have hx:(l.map ai.enc)[k]?=some [.v (.int .i64 l[k].kind),.v (.int .i64 l[k].i),.v (.string l[k].s)]:=by rw[List.getElem?_map,List.getElem?_eq_getElem hk];rfl
  have e1:(l.take (k+1)).foldl aI ⟨l.length,0,⟨0,0,dA⟩,⟨0,0,dA⟩⟩=aI z l[k]:=by rw[List.take_succ_eq_append_getElem hk,List.foldl_append,hz];rfl
  have hn:=hnl k (by omega)
  rw[←hz]at hn
  rw[e1]
  clear hz e1 hnl
  generalize l[k]=v at*
  obtain⟨zr,zn,zmn,zmx⟩:=z
  simp only at hn
  have wn:IntKind.i64.wrap ((zn:Int)+1)=((zn+1:Nat):Int):=by rw[wrap64_in _ (by omega) (by omega)];rfl
  by_cases hk0:v.kind=0
  ·have hst:aI ⟨zr,zn,zmn,zmx⟩ v=⟨zr,zn+1,zmn,zmx⟩:=if_pos hk0
   rw[hst]
   simp -implicitDefEqProofs only[↓reduceIte,go_sem,ah,ak,Nat.reduceAdd,Nat.reduceLT,Nat.reduceLeDiff,Nat.reduceEqDiff,eq_self,t3,t9,t10,t11,hk,hx,hk0,Zn.cs,wn]
   refine eQ.cut [.box 27 8 0 1 [iA 0,iA 0,iA 0,iA 0,sA ⟨#[]⟩,iA 0,iA 0,sA ⟨#[]⟩],.box 27 8 0 1 (Zn.cs ⟨zr,zn+1,zmn,zmx⟩)] _ 2 rfl rfl (by simp -implicitDefEqProofs only[go_sem,eq_self,Zn.cs]) ⟨⟨zr,zn+1,zmn,zmx⟩,rfl,rfl,?_⟩
   simp -implicitDefEqProofs only[↓reduceIte,go_sem,Nat.reduceLT,Nat.reduceEqDiff,eq_self,t2,t3,t9,t10,hw]
  ·by_cases hm:zmn.kind=0
   ·have hE:∀cs:List AV,Ext (H++[.box 27 8 0 1 [iA 0,iA 0,iA 0,iA 0,sA ⟨#[]⟩,iA 0,iA 0,sA ⟨#[]⟩],.dead 0,.box 25 3 0 1 [iA v.kind,iA v.i,sA v.s]]) (H++[.box 27 8 0 1 [iA 0,iA 0,iA 0,iA 0,sA ⟨#[]⟩,iA 0,iA 0,sA ⟨#[]⟩],.box 27 8 0 1 cs,.box 25 3 0 1 [iA v.kind,iA v.i,sA v.s]]):=fun cs=>
     Ext.fg H ⟨fun _=>rfl,fun h=>(by cases h),fun _=>rfl,trivial⟩
    have hE':=fun cs=>eq_true (hE cs)
    simp -implicitDefEqProofs only[↓reduceIte,go_sem,ah,ak,Nat.reduceAdd,Nat.reduceLT,Nat.reduceLeDiff,Nat.reduceEqDiff,eq_self,t3,t9,t10,t11,hk,hx,hk0,hm,Zn.cs]
    refine dr [some false,none,some false,some true,some true,some true] 3 (H++[.box 27 8 0 1 [iA 0,iA 0,iA 0,iA 0,sA ⟨#[]⟩,iA 0,iA 0,sA ⟨#[]⟩],.dead 0,.box 25 3 0 1 [iA v.kind,iA v.i,sA v.s]]) K.mixed (by kernel_rfl) (by kernel_rfl) (by kernel_rfl) (hE _) ?_
    simp -implicitDefEqProofs only[↓reduceIte,go_sem,ah,ak,Nat.reduceAdd,Nat.reduceLT,Nat.reduceLeDiff,Nat.reduceEqDiff,eq_self,t3,hE']
    refine ab.ok (dI v v _) ?_
    by_cases c1:aO v v<0
    ·simp -implicitDefEqProofs only[↓reduceIte,go_sem,ah,ak,Nat.reduceAdd,Nat.reduceLT,Nat.reduceLeDiff,Nat.reduceEqDiff,eq_self,t3,c1]
     refine ab.ok (dI v v _) ?_
     by_cases c2:0<aO v v
     ·have hst:aI ⟨zr,zn,zmn,zmx⟩ v=⟨zr,zn,v,v⟩:=by
        simp only[aI,dQ,ec,fh,hk0,hm,c1,c2,if_true,if_false]
      rw[hst]
      simp -implicitDefEqProofs only[↓reduceIte,go_sem,ah,ak,Nat.reduceAdd,Nat.reduceLT,Nat.reduceEqDiff,eq_self,t3,t11,c2]
      refine eQ.cut [.box 27 8 0 1 [iA 0,iA 0,iA 0,iA 0,sA ⟨#[]⟩,iA 0,iA 0,sA ⟨#[]⟩],.box 27 8 0 1 (Zn.cs ⟨zr,zn,v,v⟩)] _ 2 rfl rfl (by simp -implicitDefEqProofs only[go_sem,eq_self,Zn.cs]) ⟨⟨zr,zn,v,v⟩,rfl,rfl,?_⟩
      simp -implicitDefEqProofs only[↓reduceIte,go_sem,Nat.reduceLT,Nat.reduceEqDiff,eq_self,t2,t3,t9,t10,hw]
     ·have hst:aI ⟨zr,zn,zmn,zmx⟩ v=⟨zr,zn,v,v⟩:=by
        simp only[aI,dQ,ec,fh,hk0,hm,c1,c2,if_true,if_false]
      rw[hst]
      simp -implicitDefEqProofs only[↓reduceIte,go_sem,Nat.reduceLT,Nat.reduceEqDiff,eq_self,t11,c2]
      refine eQ.cut [.box 27 8 0 1 [iA 0,iA 0,iA 0,iA 0,sA ⟨#[]⟩,iA 0,iA 0,sA ⟨#[]⟩],.box 27 8 0 1 (Zn.cs ⟨zr,zn,v,v⟩)] _ 2 rfl rfl (by simp -implicitDefEqProofs only[go_sem,eq_self,Zn.cs]) ⟨⟨zr,zn,v,v⟩,rfl,rfl,?_⟩
      simp -implicitDefEqProofs only[↓reduceIte,go_sem,Nat.reduceLT,Nat.reduceEqDiff,eq_self,t2,t3,t9,t10,hw]
    ·simp -implicitDefEqProofs only[↓reduceIte,go_sem,ah,Nat.reduceAdd,Nat.reduceLT,Nat.reduceEqDiff,eq_self,t3,c1]
     refine ab.ok (dI v v _) ?_
     by_cases c2:0<aO v v
     ·have hst:aI ⟨zr,zn,zmn,zmx⟩ v=⟨zr,zn,v,v⟩:=by
        simp only[aI,dQ,ec,fh,hk0,hm,c1,c2,if_true,if_false]
      rw[hst]
      simp -implicitDefEqProofs only[↓reduceIte,go_sem,ah,ak,Nat.reduceAdd,Nat.reduceLT,Nat.reduceEqDiff,eq_self,t3,t11,c2]
      refine eQ.cut [.box 27 8 0 1 [iA 0,iA 0,iA 0,iA 0,sA ⟨#[]⟩,iA 0,iA 0,sA ⟨#[]⟩],.box 27 8 0 1 (Zn.cs ⟨zr,zn,v,v⟩)] _ 2 rfl rfl (by simp -implicitDefEqProofs only[go_sem,eq_self,Zn.cs]) ⟨⟨zr,zn,v,v⟩,rfl,rfl,?_⟩
      simp -implicitDefEqProofs only[↓reduceIte,go_sem,Nat.reduceLT,Nat.reduceEqDiff,eq_self,t2,t3,t9,t10,hw]
     ·have hst:aI ⟨zr,zn,zmn,zmx⟩ v=⟨zr,zn,v,v⟩:=by
        simp only[aI,dQ,ec,fh,hk0,hm,c1,c2,if_true,if_false]
      rw[hst]
      simp -implicitDefEqProofs only[↓reduceIte,go_sem,Nat.reduceLT,Nat.reduceEqDiff,eq_self,t11,c2]
      refine eQ.cut [.box 27 8 0 1 [iA 0,iA 0,iA 0,iA 0,sA ⟨#[]⟩,iA 0,iA 0,sA ⟨#[]⟩],.box 27 8 0 1 (Zn.cs ⟨zr,zn,v,v⟩)] _ 2 rfl rfl (by simp -implicitDefEqProofs only[go_sem,eq_self,Zn.cs]) ⟨⟨zr,zn,v,v⟩,rfl,rfl,?_⟩
      simp -implicitDefEqProofs only[↓reduceIte,go_sem,Nat.reduceLT,Nat.reduceEqDiff,eq_self,t2,t3,t9,t10,hw]
   ·simp -implicitDefEqProofs only[↓reduceIte,go_sem,ah,ak,Nat.reduceAdd,Nat.reduceLT,Nat.reduceLeDiff,Nat.reduceEqDiff,eq_self,t3,t9,t10,t11,hk,hx,hk0,hm,Zn.cs]
    refine ab.ok (dI v zmn _) ?_
    by_cases c1:aO v zmn<0
    ·simp -implicitDefEqProofs only[↓reduceIte,go_sem,ah,ak,Nat.reduceAdd,Nat.reduceLT,Nat.reduceLeDiff,Nat.reduceEqDiff,eq_self,t3,c1]
     refine ab.ok (dI v zmx _) ?_
     by_cases c2:0<aO v zmx
     ·have hst:aI ⟨zr,zn,zmn,zmx⟩ v=⟨zr,zn,v,v⟩:=by
        simp only[aI,dQ,ec,fh,hk0,hm,c1,c2,if_true,if_false]
      rw[hst]
      simp -implicitDefEqProofs only[↓reduceIte,go_sem,ah,ak,Nat.reduceAdd,Nat.reduceLT,Nat.reduceEqDiff,eq_self,t3,t11,c2]
      refine eQ.cut [.box 27 8 0 1 [iA 0,iA 0,iA 0,iA 0,sA ⟨#[]⟩,iA 0,iA 0,sA ⟨#[]⟩],.box 27 8 0 1 (Zn.cs ⟨zr,zn,v,v⟩)] _ 2 rfl rfl (by simp -implicitDefEqProofs only[go_sem,eq_self,Zn.cs]) ⟨⟨zr,zn,v,v⟩,rfl,rfl,?_⟩
      simp -implicitDefEqProofs only[↓reduceIte,go_sem,Nat.reduceLT,Nat.reduceEqDiff,eq_self,t2,t3,t9,t10,hw]
     ·have hst:aI ⟨zr,zn,zmn,zmx⟩ v=⟨zr,zn,v,zmx⟩:=by
        simp only[aI,dQ,ec,fh,hk0,hm,c1,c2,if_true,if_false]
      rw[hst]
      simp -implicitDefEqProofs only[↓reduceIte,go_sem,Nat.reduceLT,Nat.reduceEqDiff,eq_self,t11,c2]
      refine eQ.cut [.box 27 8 0 1 [iA 0,iA 0,iA 0,iA 0,sA ⟨#[]⟩,iA 0,iA 0,sA ⟨#[]⟩],.box 27 8 0 1 (Zn.cs ⟨zr,zn,v,zmx⟩)] _ 2 rfl rfl (by simp -implicitDefEqProofs only[go_sem,eq_self,Zn.cs]) ⟨⟨zr,zn,v,zmx⟩,rfl,rfl,?_⟩
      simp -implicitDefEqProofs only[↓reduceIte,go_sem,Nat.reduceLT,Nat.reduceEqDiff,eq_self,t2,t3,t9,t10,hw]
    ·simp -implicitDefEqProofs only[↓reduceIte,go_sem,ah,Nat.reduceAdd,Nat.reduceLT,Nat.reduceEqDiff,eq_self,t3,c1]
     refine ab.ok (dI v zmx _) ?_
     by_cases c2:0<aO v zmx
     ·have hst:aI ⟨zr,zn,zmn,zmx⟩ v=⟨zr,zn,zmn,v⟩:=by
        simp only[aI,dQ,ec,fh,hk0,hm,c1,c2,if_true,if_false]
      rw[hst]
      simp -implicitDefEqProofs only[↓reduceIte,go_sem,ah,ak,Nat.reduceAdd,Nat.reduceLT,Nat.reduceEqDiff,eq_self,t3,t11,c2]
      refine eQ.cut [.box 27 8 0 1 [iA 0,iA 0,iA 0,iA 0,sA ⟨#[]⟩,iA 0,iA 0,sA ⟨#[]⟩],.box 27 8 0 1 (Zn.cs ⟨zr,zn,zmn,v⟩)] _ 2 rfl rfl (by simp -implicitDefEqProofs only[go_sem,eq_self,Zn.cs]) ⟨⟨zr,zn,zmn,v⟩,rfl,rfl,?_⟩
      simp -implicitDefEqProofs only[↓reduceIte,go_sem,Nat.reduceLT,Nat.reduceEqDiff,eq_self,t2,t3,t9,t10,hw]
     ·have hst:aI ⟨zr,zn,zmn,zmx⟩ v=⟨zr,zn,zmn,zmx⟩:=by
        simp only[aI,dQ,ec,fh,hk0,hm,c1,c2,if_false]
      rw[hst]
      simp -implicitDefEqProofs only[↓reduceIte,go_sem,Nat.reduceLT,Nat.reduceEqDiff,eq_self,t11,c2]
      refine eQ.cut [.box 27 8 0 1 [iA 0,iA 0,iA 0,iA 0,sA ⟨#[]⟩,iA 0,iA 0,sA ⟨#[]⟩],.box 27 8 0 1 (Zn.cs ⟨zr,zn,zmn,zmx⟩)] _ 2 rfl rfl (by simp -implicitDefEqProofs only[go_sem,eq_self,Zn.cs]) ⟨⟨zr,zn,zmn,zmx⟩,rfl,rfl,?_⟩
      simp -implicitDefEqProofs only[↓reduceIte,go_sem,Nat.reduceLT,Nat.reduceEqDiff,eq_self,t2,t3,t9,t10,hw]
 ·rintro s H' ⟨z,hz,rfl,t2,t3,t9,t10,t11⟩
  rw[List.take_length]at hz
  have hz':aZ l=z:=hz.symm
  rw[hz']
  simp -implicitDefEqProofs only[↓reduceIte,go_sem,ah,ak,Nat.reduceAdd,Nat.reduceLT,Nat.reduceEqDiff,eq_self,t2,t3,t10,t11,Zn.cs]
  refine bp.ret ?_
  simp -implicitDefEqProofs only[↓reduceIte,go_sem,ah,Nat.reduceAdd,Nat.reduceLeDiff,Nat.reduceEqDiff,eq_self,aK,bH,t2]
def cT(v:ai):Bool:=if v.kind=2 then decide (jk v.i=db (jk v.i))&&decide (v.s.toList=[])else if v.kind=1 then decide (v.s.toList=[])else if v.kind=3 then decide (v.i=0)&&decide (v.s.size≤1024)else if v.kind=0 then decide (v.i=0)&&decide (v.s.toList=[])else false
theorem iX(v:ai)(H:aa):ag Tryz.prog 60 [v.av] H (.ok (bA (cT v))) H:=by
 have e0:∀x:ByteArray,(x.toList==(⟨#[]⟩:ByteArray).toList)=decide (x.toList=[]):=fun x=>by
  rw[show(⟨#[]⟩:ByteArray).toList=[]from gr];rw[Bool.eq_iff_iff];simp
 refine ag.aj (hint:=(fun _=>false)) Tryz.func60 (by kernel_rfl) rfl [2] (by kernel_rfl) (by decide) (by simp[Tryz.ntmps60]) ?_
 rw[Tryz.ntmps60]
 by_cases h2:v.kind=2
 ·simp -implicitDefEqProofs only[↓reduceIte,go_sem,ah,Nat.reduceAdd,Nat.reduceLT,Nat.reduceLeDiff,Nat.reduceEqDiff,eq_self,h2]
  refine bP K.mixed (by kernel_rfl) ?_
  simp -implicitDefEqProofs only[↓reduceIte,go_sem,ah,Nat.reduceAdd,Nat.reduceLT,Nat.reduceLeDiff,Nat.reduceEqDiff,eq_self,pt]
  refine ab.ok (ic _ (km _) _) ?_
  simp -implicitDefEqProofs only[↓reduceIte,go_sem,Nat.reduceLT,Nat.reduceEqDiff,eq_self,Int.natCast_inj]
  cases hc:decide (jk v.i=db (jk v.i))with
  |true=>
   simp -implicitDefEqProofs only[↓reduceIte,go_sem,ah,Nat.reduceAdd,Nat.reduceLT,Nat.reduceEqDiff,eq_self,e0]
   refine aw.ret ?_
   simp -implicitDefEqProofs only[↓reduceIte,go_sem,Nat.reduceLT,eq_self,cT,h2,hc]
  |false=>
   simp -implicitDefEqProofs only[↓reduceIte,go_sem,Nat.reduceLT,Nat.reduceEqDiff,reduceCtorEq,eq_self]
   refine aw.ret ?_
   simp -implicitDefEqProofs only[↓reduceIte,go_sem,Nat.reduceLT,eq_self,cT,h2,hc]
 by_cases h1:v.kind=1
 ·simp -implicitDefEqProofs only[↓reduceIte,go_sem,ah,Nat.reduceAdd,Nat.reduceLT,Nat.reduceLeDiff,Nat.reduceEqDiff,Int.reduceEq,eq_self,h1,e0]
  refine aw.ret ?_
  simp -implicitDefEqProofs only[↓reduceIte,go_sem,Nat.reduceLT,Int.reduceEq,eq_self,cT,h1]
 by_cases h3:v.kind=3
 ·by_cases hi:v.i=0
  ·simp -implicitDefEqProofs only[↓reduceIte,go_sem,ah,Nat.reduceAdd,Nat.reduceLT,Nat.reduceLeDiff,Nat.reduceEqDiff,Int.reduceEq,eq_self,h3,hi]
   refine aw.ret ?_
   simp -implicitDefEqProofs only[↓reduceIte,go_sem,Nat.reduceLT,Int.reduceEq,eq_self,cT,h3,hi,show((v.s.size:Int)≤1024)=(v.s.size≤1024)from by simp;omega]
  ·simp -implicitDefEqProofs only[↓reduceIte,go_sem,ah,Nat.reduceAdd,Nat.reduceLT,Nat.reduceLeDiff,Nat.reduceEqDiff,Int.reduceEq,reduceCtorEq,eq_self,h3,hi]
   refine aw.ret ?_
   simp -implicitDefEqProofs only[↓reduceIte,go_sem,Nat.reduceLT,Int.reduceEq,eq_self,cT,h3,hi]
 by_cases h0:v.kind=0
 ·have e1:my v.kind v.i v.s 0 0 ⟨#[]⟩=(decide (v.i=0)&&decide (v.s.toList=[])):=by
   rw[show my v.kind v.i v.s 0 0 ⟨#[]⟩=decide (v=⟨0,0,dA⟩)from Ba v]
   simp only[Ef v h0,Bool.decide_and]
  simp -implicitDefEqProofs only[↓reduceIte,go_sem,ah,Nat.reduceAdd,Nat.reduceLT,Nat.reduceLeDiff,Nat.reduceEqDiff,eq_self,h1,h2,h3,eq_true h0,e1]
  refine aw.ret ?_
  simp -implicitDefEqProofs only[↓reduceIte,go_sem,Nat.reduceLT,eq_self,cT,h1,h2,h3,eq_true h0]
 simp -implicitDefEqProofs only[↓reduceIte,go_sem,ah,Nat.reduceAdd,Nat.reduceLT,Nat.reduceLeDiff,Nat.reduceEqDiff,reduceCtorEq,eq_self,h0,h1,h2,h3]
 refine aw.ret ?_
 simp -implicitDefEqProofs only[↓reduceIte,go_sem,Nat.reduceLT,eq_self,cT,h0,h1,h2,h3]
def oB{α:Type}(p:α→Bool)(l:List α):Int:=if l.any p then(l.findIdx p:Nat)else -1
theorem En{α:Type}{p:α→Bool}{l:List α}{k:Nat}(h:∀i (hi:i<k) (hl:i<l.length),p l[i]=false)(hk:k<l.length)(hp:p l[k]=true):oB p l=k:=by
 unfold oB
 rw[if_pos (List.any_eq_true.2 ⟨l[k],List.getElem_mem hk,hp⟩)]
 congr 1
 exact(List.findIdx_eq hk).2 ⟨hp,fun j hj=>h j hj (by omega)⟩
theorem any_none{α:Type}{p:α→Bool}{l:List α}(h:∀i (hi:i<l.length),p l[i]=false):l.any p=false:=by
 rw[List.any_eq_false]
 intro x hx
 obtain⟨i,hi,rfl⟩:=List.mem_iff_getElem.1 hx
 simp[h i hi]
theorem AI{α:Type}{p:α→Bool}{l:List α}(h:∀i (hi:i<l.length),p l[i]=false):oB p l=-1:=by
 unfold oB
 rw[any_none h]
 rfl
theorem EB{α:Type}(p:α→Bool)(l:List α):(0≤oB p l)=(l.any p=true):=by
 unfold oB
 cases h:l.any p with
 |true=>simp
 |false=>simp
theorem om(l:List ai)(p:ai→Bool)(g:FuncId)(caps:List AV)(n1:Bool)(H:aa)(hl:l.length≤9223372036854775807)(hf:∀v∈l,ag Tryz.prog g ([v.av]++caps) H (.ok (bA (p v))) H):
  ag Tryz.prog 103 [.d (.list n1 (l.map ai.enc)),.fn g caps] H (.ok (iA (oB p l))) H:=by
 refine ag.aj (hint:=(fun _=>false)) Tryz.func103 (by kernel_rfl) rfl [4] (by kernel_rfl) (by decide) (by simp[Tryz.ntmps103]) ?_
 rw[Tryz.ntmps103]
 simp -implicitDefEqProofs only[↓reduceIte,go_sem,Nat.reduceLT,Int.reduceNeg,reduceCtorEq,eq_self]
 refine bl (fun k s H'=>H'=H∧(∀i (hi:i<k) (hl:i<l.length),p l[i]=false)∧s 0= .d (.list n1 (l.map ai.enc))∧s 1= .fn g caps∧s 7=iA l.length∧s 8=iA k) l.length hl (ar.refl _ _) ?_ ?_ ?_
 ·refine⟨rfl,fun i hi=>by omega,?_⟩
  simp -implicitDefEqProofs only[↓reduceIte,go_sem,Nat.reduceLT,Nat.reduceEqDiff,reduceCtorEq,eq_self]
 ·rintro k s H' hk hw ⟨rfl,hp,h0,h1,h7,h8⟩
  have hx:=List.getElem?_eq_getElem hk
  have hit:p l[k]=true→oB p l=k:=fun h=>En hp hk h
  have hpp:p l[k]=false→∀i (hi:i<k+1) (hl:i<l.length),p l[i]=false:=fun h0 i hi hl'=>by
   rcases Nat.lt_or_ge i k with h|h
   ·exact hp i h hl'
   ·obtain rfl:i=k:=by omega
    exact h0
  have hfk:=hf l[k] (List.getElem_mem hk)
  generalize l[k]=v at hx hit hpp hfk
  simp -implicitDefEqProofs only[↓reduceIte,go_sem,Nat.reduceAdd,Nat.reduceLT,Nat.reduceEqDiff,reduceCtorEq,eq_self,h0,h1,h7,h8,hk,hx,ai.enc]
  refine ab.ok hfk ?_
  cases hv:p v with
  |true=>
   simp -implicitDefEqProofs only[↓reduceIte,go_sem,Nat.reduceLT,Nat.reduceEqDiff,eq_self]
   refine aw.bq ?_
   simp -implicitDefEqProofs only[↓reduceIte,go_sem,Nat.reduceLT,eq_self,hit hv]
  |false=>
   simp -implicitDefEqProofs only[↓reduceIte,go_sem,Nat.reduceLT,Nat.reduceEqDiff,eq_self,h8]
   refine eQ.same ⟨rfl,hpp hv,?_⟩
   simp -implicitDefEqProofs only[↓reduceIte,go_sem,Nat.reduceLT,Nat.reduceEqDiff,reduceCtorEq,eq_self,h0,h1,h7,hw]
 ·rintro s H' ⟨rfl,hp,h0,h1,h7,h8⟩
  simp -implicitDefEqProofs only[↓reduceIte,go_sem,Nat.reduceLT,Int.reduceNeg,eq_self,h7,h8]
  refine aw.bq ?_
  simp -implicitDefEqProofs only[↓reduceIte,go_sem,Nat.reduceLT,Int.reduceNeg,eq_self,AI fun i hi=>hp i hi hi]
theorem j5(l:List ai)(p:ai→Bool)(g:FuncId)(caps:List AV)(n1:Bool)(H:aa)(hl:l.length≤9223372036854775807)(hf:∀v∈l,ag Tryz.prog g ([v.av]++caps) H (.ok (bA (p v))) H):
  ag Tryz.prog 62 [.d (.list n1 (l.map ai.enc)),.fn g caps] H (.ok (bA (l.any p))) H:=by
 refine ag.aj (hint:=(fun _=>false)) Tryz.func62 (by kernel_rfl) rfl [4] (by kernel_rfl) (by decide) (by simp[Tryz.ntmps62]) ?_
 rw[Tryz.ntmps62]
 simp -implicitDefEqProofs only[↓reduceIte,go_sem,Nat.reduceLT,Nat.reduceEqDiff,reduceCtorEq,eq_self]
 refine ab.ok (om l p g caps n1 H hl hf) ?_
 simp -implicitDefEqProofs only[↓reduceIte,go_sem,Nat.reduceLT,eq_self,EB]
 refine aw.bq ?_
 simp -implicitDefEqProofs only[↓reduceIte,go_sem,Nat.reduceLT,eq_self,Bool.decide_eq_true]
def bI(k:Int):Bool:=decide (1≤k)&&decide (k≤3)
theorem eD(k:Int)(H:aa):ag Tryz.prog 61 [iA k] H (.ok (bA (bI k))) H:=by
 refine ag.aj (hint:=(fun _=>false)) Tryz.func61 (by kernel_rfl) rfl [2] (by kernel_rfl) (by decide) (by simp[Tryz.ntmps61]) ?_
 rw[Tryz.ntmps61]
 by_cases h:1≤k
 ·simp -implicitDefEqProofs only[↓reduceIte,go_sem,Nat.reduceLT,Nat.reduceEqDiff,reduceCtorEq,eq_self,h]
  refine aw.bq ?_
  simp -implicitDefEqProofs only[↓reduceIte,go_sem,Nat.reduceLT,eq_self,bI,h]
 ·simp -implicitDefEqProofs only[↓reduceIte,go_sem,Nat.reduceLT,Nat.reduceEqDiff,reduceCtorEq,eq_self,h]
  refine aw.bq ?_
  simp -implicitDefEqProofs only[↓reduceIte,go_sem,Nat.reduceLT,eq_self,bI,h]
def aL(l:List ai)(k:Int):Int:=if !bI k then 1 else if 4096<l.length then 2 else if l.any (fun v=> !decide (v.kind=k))then 7 else if l.any (fun v=> !cT v)then 1 else 0
theorem wR(v:ai)(k:Int)(id:Nat)(H:aa)(hb:H[id]?=some (.box 3 1 0 1 [iA k])):ag Tryz.prog 58 [v.av,.ptr id 0 0 0] H (.ok (bA (!decide (v.kind=k)))) H:=by
 have hlt:id<H.length:=(List.getElem?_eq_some_iff.1 hb).1
 refine ag.aj (hint:=(fun _=>false)) Tryz.func58 (by kernel_rfl) rfl [3] (by kernel_rfl) (by decide) (by simp[Tryz.ntmps58]) ?_
 rw[Tryz.ntmps58]
 simp -implicitDefEqProofs only[↓reduceIte,go_sem,ah,Nat.reduceAdd,Nat.reduceLT,Nat.reduceLeDiff,Nat.reduceEqDiff,eq_self,hb,List.getElem?_append_left hlt]
 refine aw.ret ?_
 simp -implicitDefEqProofs only[↓reduceIte,go_sem,Nat.reduceLT,eq_self]
theorem wo(v:ai)(H:aa):ag Tryz.prog 59 [v.av] H (.ok (bA (!cT v))) H:=by
 refine ag.aj (hint:=(fun _=>false)) Tryz.func59 (by kernel_rfl) rfl [2] (by kernel_rfl) (by decide) (by simp[Tryz.ntmps59]) ?_
 rw[Tryz.ntmps59]
 simp -implicitDefEqProofs only[↓reduceIte,go_sem,ah,Nat.reduceAdd,Nat.reduceLT,Nat.reduceEqDiff,eq_self]
 refine ab.ok (iX v _) ?_
 simp -implicitDefEqProofs only[↓reduceIte,go_sem,Nat.reduceLT,eq_self]
 refine aw.ret ?_
 simp -implicitDefEqProofs only[↓reduceIte,go_sem,Nat.reduceLT,eq_self]
theorem dW(l:List ai)(k:Int)(nn:Bool)(H:aa)(hl:l.length≤9223372036854775807):ag Tryz.prog 29 [.d (.list nn (l.map ai.enc)),iA k] H (.ok (iA (aL l k))) H:=by
 refine ag.aj (hint:=(fun _=>false)) Tryz.func29 (by kernel_rfl) rfl [4] (by kernel_rfl) (by decide) (by simp[Tryz.ntmps29]) ?_
 rw[Tryz.ntmps29]
 simp -implicitDefEqProofs only[↓reduceIte,go_sem,ah,Nat.reduceLT,Nat.reduceEqDiff,eq_self]
 refine ab.ok (eD k _) ?_
 cases h1:bI k with
 |false=>
  simp -implicitDefEqProofs only[↓reduceIte,go_sem,Nat.reduceLT,eq_self]
  refine aw.ret ?_
  simp -implicitDefEqProofs only[↓reduceIte,go_sem,Nat.reduceLT,eq_self,aL,h1]
 |true=>
  by_cases h2:4096<l.length
  ·simp -implicitDefEqProofs only[↓reduceIte,go_sem,Nat.reduceLT,reduceCtorEq,eq_self,show((4096:Int)<(l.length:Int))=True from eq_true (by omega)]
   refine aw.ret ?_
   simp -implicitDefEqProofs only[↓reduceIte,go_sem,Nat.reduceLT,eq_self,aL,h1,h2,Bool.false_eq_true]
  ·simp -implicitDefEqProofs only[↓reduceIte,go_sem,Nat.reduceLT,Nat.reduceEqDiff,reduceCtorEq,eq_self,show((4096:Int)<(l.length:Int))=False from eq_false (by omega)]
   refine ab.ok (j5 l (fun v=> !decide (v.kind=k)) _ _ nn _ hl fun v _=>wR v k _ _ (by simp)) ?_
   cases h3:l.any (fun v=> !decide (v.kind=k))with
   |true=>
    simp -implicitDefEqProofs only[↓reduceIte,go_sem,Nat.reduceLT,eq_self]
    refine aw.ret ?_
    simp -implicitDefEqProofs only[↓reduceIte,go_sem,Nat.reduceLT,eq_self,aL,h1,h2,h3,Bool.false_eq_true]
   |false=>
    simp -implicitDefEqProofs only[↓reduceIte,go_sem,Nat.reduceLT,Nat.reduceEqDiff,reduceCtorEq,eq_self]
    refine ab.ok (j5 l (fun v=> !cT v) _ _ nn _ hl fun v _=>wo v _) ?_
    cases h4:l.any (fun v=> !cT v)with
    |true=>
     simp -implicitDefEqProofs only[↓reduceIte,go_sem,Nat.reduceLT,eq_self]
     refine aw.ret ?_
     simp -implicitDefEqProofs only[↓reduceIte,go_sem,Nat.reduceLT,eq_self,aL,h1,h2,h3,h4,Bool.false_eq_true]
    |false=>
     simp -implicitDefEqProofs only[↓reduceIte,go_sem,Nat.reduceLT,eq_self]
     refine aw.ret ?_
     simp -implicitDefEqProofs only[↓reduceIte,go_sem,Nat.reduceLT,eq_self,aL,h1,h2,h3,h4,Bool.false_eq_true]
def fU(n:Int):Nat:=if 0≤n then(2* n).toNat else(-2* n-1).toNat
theorem zv(n:Int):IntKind.u64.wrap n=n%18446744073709551616:=by simp[IntKind.wrap,IntKind.signed,IntKind.bits]
theorem Dd(c:Nat)(h:c<18446744073709551616):c^^^18446744073709551615=18446744073709551615-c:=by
 have:=Nat.testBit_two_pow_sub_succ (x:=c) (n:=64) h
 apply Nat.eq_of_testBit_eq
 intro i
 rw[Nat.testBit_xor]
 have h2:=this i
 rw[show 2^64-(c+1)=18446744073709551615-c from by omega]at h2
 rw[h2]
 have h3:(18446744073709551615:Nat).testBit i=decide (i<64):=by
  have:=Nat.testBit_two_pow_sub_one 64 i
  simpa using this
 rw[h3]
 by_cases hi:i<64
 ·simp[hi]
 ·have h5:2^64≤2^i:=Nat.pow_le_pow_right (by omega) (by omega)
  have:c.testBit i=false:=Nat.testBit_lt_two_pow (by omega)
  simp[hi,this]
theorem Gf(n:Int)(h1:-9223372036854775808≤n)(h2:n≤9223372036854775807):
  IntKind.u64.wrap (oG .u64 (IntKind.u64.wrap (nq .u64 (IntKind.u64.wrap n) 1)) (IntKind.u64.wrap (iF .i64 n 63)))=((fU n:Nat):Int):=by
 have s1:nq .u64 (IntKind.u64.wrap n) 1=IntKind.u64.wrap n* 2:=by simp[nq,IntKind.bits]
 have s2:iF .i64 n 63=n.fdiv 9223372036854775808:=by simp[iF,IntKind.bits]
 rw[s1,s2]
 by_cases h:0≤n
 ·have e1:IntKind.u64.wrap (IntKind.u64.wrap n* 2)=(((2* n).toNat:Nat):Int):=by rw[zv,zv];omega
  have e2:IntKind.u64.wrap (n.fdiv 9223372036854775808)=((0:Nat):Int):=by
   rw[show n.fdiv 9223372036854775808=0 from by rw[Int.fdiv_eq_ediv_of_nonneg _ (by decide)];omega];rfl
  rw[e1,e2]
  have e:=bits_xor_u64_nat (2* n).toNat 0 (by omega) (by omega)
  rw[Nat.xor_zero]at e
  unfold fU
  rw[if_pos h]
  exact e
 ·have e1:IntKind.u64.wrap (IntKind.u64.wrap n* 2)=(((2* n+18446744073709551616).toNat:Nat):Int):=by rw[zv,zv];omega
  have e2:IntKind.u64.wrap (n.fdiv 9223372036854775808)=((18446744073709551615:Nat):Int):=by
   rw[show n.fdiv 9223372036854775808=-1 from by rw[Int.fdiv_eq_ediv_of_nonneg _ (by decide)];omega];rfl
  rw[e1,e2]
  have e:=bits_xor_u64_nat (2* n+18446744073709551616).toNat 18446744073709551615 (by omega) (by omega)
  rw[Dd _ (by omega)]at e
  unfold fU
  rw[if_neg h,show(-2* n-1).toNat=18446744073709551615-(2* n+18446744073709551616).toNat from by omega]
  exact e
theorem qj(n:Int)(h1:-9223372036854775808≤n)(h2:n≤9223372036854775807)(H:aa):ag Tryz.prog 64 [iA n] H (.ok (du (fU n))) H:=by
 refine ag.aj (hint:=(fun _=>false)) Tryz.func64 (by kernel_rfl) rfl [2] (by kernel_rfl) (by decide) (by simp[Tryz.ntmps64]) ?_
 rw[Tryz.ntmps64]
 simp -implicitDefEqProofs only[↓reduceIte,go_sem,Nat.reduceLT,Nat.reduceEqDiff,Int.reduceLE,reduceCtorEq,eq_self,Gf n h1 h2]
 refine aw.bq ?_
 simp -implicitDefEqProofs only[↓reduceIte,go_sem,Nat.reduceLT,eq_self]
theorem wV(n k:Nat)(h:k≤64):iF .u64 (n:Int) (k:Int)=((n/2^k:Nat):Int):=by
 have:min k 64=k:=by omega
 simp only[iF,IntKind.bits,Int.toNat_natCast,this]
 rw[Int.fdiv_eq_ediv_of_nonneg _ (by exact_mod_cast Nat.zero_le _)]
 norm_cast
theorem qd(n:Nat)(h:n<256):IntKind.u8.wrap (n:Int)=n:=rZ _ (by omega) (by omega)
theorem mB(k:IntKind)(a b:Nat)(ha:a<2^k.bits)(hb:b<2^k.bits):Gb k (a:Int) (b:Int)=((a|||b:Nat):Int):=by
 simp[Gb,BitVec.toNat_or,BitVec.ofInt_natCast,Nat.mod_eq_of_lt ha,Nat.mod_eq_of_lt hb]
theorem mK(k:IntKind)(a b:Nat)(ha:a<2^k.bits)(hb:b<2^k.bits):so k (a:Int) (b:Int)=((a&&&b:Nat):Int):=by
 simp[so,BitVec.toNat_and,BitVec.ofInt_natCast,Nat.mod_eq_of_lt ha,Nat.mod_eq_of_lt hb]
theorem aU(n:Nat)(h:n<18446744073709551616):IntKind.u64.wrap (n:Int)=n:=lF _ (by omega) (by omega)
theorem nk(n:Nat):IntKind.u8.wrap (n:Int)=((n%256:Nat):Int):=by simp[IntKind.wrap,IntKind.signed,IntKind.bits]
theorem F5(n:Nat)(h:n≤1000000000000):IntKind.i64.wrap (n:Int)=(n:Int):=wrap64_in _ (by omega) (by omega)
def dN(n:Nat):Nat:=if n=0 then 0 else n.log2+1
theorem fE(n w:Nat):dN n≤w↔n<2^w:=by
 unfold dN
 split
 ·subst_vars;simp[Nat.two_pow_pos]
 ·rename_i h
  rw[←Nat.log2_lt h];omega
theorem pX(n k:Nat)(h:2^k≤n):dN n=k+dN (n/2^k):=by
 have key:∀w,dN n≤w↔k+dN (n/2^k)≤w:=by
  intro w
  rcases Nat.lt_or_ge w k with hw|hw
  ·rw[fE]
   have:2^w≤2^k:=Nat.pow_le_pow_right (by omega) (by omega)
   omega
  ·rw[show(k+dN (n/2^k)≤w)=(dN (n/2^k)≤w-k)from propext ⟨fun h=>by omega,fun h=>by omega⟩,fE,fE,Nat.div_lt_iff_lt_mul (Nat.two_pow_pos k),←Nat.pow_add,Nat.sub_add_cancel hw]
 exact Nat.le_antisymm ((key _).2 (Nat.le_refl _)) ((key _).1 (Nat.le_refl _))
theorem Ac{n:Nat}(h:n<18446744073709551616):dN n≤64:=(fE n 64).2 h
theorem GK:∀n,n<256→∀b:ByteArray,b.data.toList=(List.range 256).map (fun n=>UInt8.ofNat (dN n))→b[n]?=some (UInt8.ofNat (dN n)):=by
 intro n hn b hb
 have:b.data[n]?=some (UInt8.ofNat (dN n)):=by
  rw[←Array.getElem?_toList,hb];simp[hn]
 obtain⟨h1,h2⟩:=Array.getElem?_eq_some_iff.1 this
 rw[getElem?_pos b n h1]
 exact congrArg some h2
theorem Bt{n:Nat}(h:n<256):(UInt8.ofNat (dN n)).toNat=dN n:=by
 have:dN n≤8:=(fE n 8).2 h
 simp;omega
theorem nz(n:Nat):(4294967296≤n→dN n=32+dN (n/4294967296))∧(65536≤n→dN n=16+dN (n/65536))∧(256≤n→dN n=8+dN (n/256)):=
 ⟨pX n 32,pX n 16,pX n 8⟩
theorem qh(n:Nat)(hn:n<18446744073709551616)(H:aa):ag Tryz.prog 108 [du n] H (.ok (iA (dN n))) H:=by
 have s32:∀n:Nat,iF .u64 (n:Int) 32=((n/4294967296:Nat):Int):=fun n=>wV n 32 (by decide)
 have s16:∀n:Nat,iF .u64 (n:Int) 16=((n/65536:Nat):Int):=fun n=>wV n 16 (by decide)
 have s8:∀n:Nat,iF .u64 (n:Int) 8=((n/256:Nat):Int):=fun n=>wV n 8 (by decide)
 have w48:IntKind.i64.wrap 48=48:=rfl
 have w56:IntKind.i64.wrap 56=56:=rfl
 have w40:IntKind.i64.wrap 40=40:=rfl
 have w24:IntKind.i64.wrap 24=24:=rfl
 have w16:IntKind.i64.wrap 16=16:=rfl
 have w8:IntKind.i64.wrap 8=8:=rfl
 have fin:∀(r:Int) (q m:Nat),r=(q:Int)→q≤56→m<256→IntKind.i64.wrap (r+IntKind.i64.wrap ((dN m:Nat):Int))=((q+dN m:Nat):Int):=fun r q m h0 hr hm=>by
  have:=(fE m 8).2 hm
  rw[wrap64_in (dN m:Int) (by omega) (by omega),wrap64_in _ (by omega) (by omega)]
  omega
 refine ag.aj (hint:=(fun _=>false)) Tryz.func108 (by kernel_rfl) rfl [2] (by kernel_rfl) (by decide) (by simp[Tryz.ntmps108]) ?_
 rw[Tryz.ntmps108]
 simp -implicitDefEqProofs only[↓reduceIte,go_sem,Nat.reduceLT,reduceCtorEq,eq_self]
 by_cases h:(4294967296:Int)≤(n:Int)
 all_goals first
  |(have e1:=(nz n).1 (by omega)
    simp -implicitDefEqProofs only[↓reduceIte,go_sem,Nat.reduceLT,Int.reduceLE,reduceCtorEq,eq_self,h,s32]
    have hn1:n/4294967296<4294967296:=by omega
    generalize n/4294967296=n1 at e1 hn1⊢)
  |(simp -implicitDefEqProofs only[↓reduceIte,go_sem,Nat.reduceLT,reduceCtorEq,eq_self,h]
    obtain⟨n1,g1⟩:∃n1,n1=n:=⟨_,rfl⟩
    have hn1:n1<4294967296:=by omega
    have e1:dN n=0+dN n1:=by rw[g1];omega
    rw[←g1])
 all_goals
  by_cases h2:(65536:Int)≤(n1:Int)
  all_goals first
   |(have e2:=(nz n1).2.1 (by omega)
     simp -implicitDefEqProofs only[↓reduceIte,go_sem,Nat.reduceLT,Nat.reduceEqDiff,Int.reduceLE,Int.reduceAdd,reduceCtorEq,eq_self,h2,s16,w48]
     have hn2:n1/65536<65536:=by omega
     generalize n1/65536=n2 at e2 hn2⊢)
   |(simp -implicitDefEqProofs only[↓reduceIte,go_sem,Nat.reduceLT,reduceCtorEq,eq_self,h2]
     obtain⟨n2,g2⟩:∃n2,n2=n1:=⟨_,rfl⟩
     have hn2:n2<65536:=by omega
     have e2:dN n1=0+dN n2:=by rw[g2];omega
     rw[←g2])
  all_goals
   by_cases h3:(256:Int)≤(n2:Int)
   all_goals first
    |(have e3:=(nz n2).2.2 (by omega)
      simp -implicitDefEqProofs only[↓reduceIte,go_sem,Nat.reduceLT,Nat.reduceEqDiff,Int.reduceLE,Int.reduceAdd,reduceCtorEq,eq_self,h3,s8,w56,w40,w24,w16,w8]
      have hn3:n2/256<256:=by omega
      generalize n2/256=n3 at e3 hn3⊢)
    |(simp -implicitDefEqProofs only[↓reduceIte,go_sem,Nat.reduceLT,Nat.reduceEqDiff,reduceCtorEq,eq_self,h3]
      obtain⟨n3,g3⟩:∃n3,n3=n2:=⟨_,rfl⟩
      have hn3:n3<256:=by omega
      have e3:dN n2=0+dN n3:=by rw[g3];omega
      rw[←g3])
   all_goals
    simp -implicitDefEqProofs only[go_sem,qd n3 hn3]
    rw[GK n3 hn3 _ (by kernel_rfl)]
    simp -implicitDefEqProofs only[↓reduceIte,go_sem,Nat.reduceLT,Nat.reduceEqDiff,eq_self,Bt hn3]
    refine aw.bq ?_
    have f0:=fin 0 0 n3 rfl (by decide) hn3
    have f8:=fin 8 8 n3 rfl (by decide) hn3
    have f16:=fin 16 16 n3 rfl (by decide) hn3
    have f24:=fin 24 24 n3 rfl (by decide) hn3
    have f32:=fin 32 32 n3 rfl (by decide) hn3
    have f40:=fin 40 40 n3 rfl (by decide) hn3
    have f48:=fin 48 48 n3 rfl (by decide) hn3
    have f56:=fin 56 56 n3 rfl (by decide) hn3
    simp -implicitDefEqProofs only[↓reduceIte,go_sem,Nat.reduceLT,eq_self,w16,f0,f8,f16,f24,f32,f40,f48,f56]
    all_goals
     refine congrArg (fun m:Nat=>iA m) ?_
     first|omega|(simp only[e1,e2,e3];omega)
def us(l:List Nat):List (List D):=l.map fun(n:Nat)=>[.v (.int .u64 (n:Int))]
def aG(l:List Nat):List (List D):=l.map fun(n:Nat)=>[.v (.int .u8 (n:Int))]
theorem fT(l:List Nat):(us l).length=l.length:=by simp[us]
theorem al(l:List Nat):(aG l).length=l.length:=by simp[aG]
theorem GL:us []=[]:=rfl
theorem sr:aG []=[]:=rfl
theorem nJ(l:List Nat)(k:Nat)(h:k<l.length):(us l)[k]?=some [.v (.int .u64 (l[k]:Int))]:=by simp[us,h]
theorem ET(l:List Nat)(k:Nat)(h:k<l.length):(aG l)[k]?=some [.v (.int .u8 (l[k]:Int))]:=by simp[aG,h]
theorem tI(l:List Nat)(n:Nat):us l++[[.v (.int .u64 (n:Int))]]=us (l++[n]):=by simp[us]
theorem ma(l:List Nat)(n:Nat):aG l++[[.v (.int .u8 (n:Int))]]=aG (l++[n]):=by simp[aG]
theorem eB(l m:List Nat):aG l++aG m=aG (l++m):=by simp[aG]
theorem Fw(l:List Nat)(k n:Nat):(aG l).set k [.v (.int .u8 (n:Int))]=aG (l.set k n):=by simp[aG,List.map_set]
theorem aS(l:List Nat):(∀c∈aG l,c.length=1)=True:=eq_true fun c hc=>by obtain⟨x,_,rfl⟩:=List.mem_map.1 hc;rfl
def cZ(l:List Nat):Nat:=dN (l.foldl (·|||·) 0)
theorem ni{l:List Nat}(h:∀n∈l,n<18446744073709551616):∀{a:Nat},a<18446744073709551616→l.foldl (·|||·) a<18446744073709551616:=by
 induction l with
 |nil=>exact fun h=>h
 |cons x l ih=>exact fun{a} ha=>ih (fun n hn=>h n (by simp[hn])) (Nat.or_lt_two_pow (n:=64) ha (h x (by simp)))
theorem lZ(l:List Nat)(nn:Bool)(H:aa)(hl:l.length≤9223372036854775807)(hu:∀n∈l,n<18446744073709551616):ag Tryz.prog 125 [.d (.list nn (us l))] H (.ok (iA (cZ l))) H:=by
 refine ag.aj (hint:=(fun _=>false)) Tryz.func125 (by kernel_rfl) rfl [2] (by kernel_rfl) (by decide) (by simp[Tryz.ntmps125]) ?_
 rw[Tryz.ntmps125]
 simp -implicitDefEqProofs only[↓reduceIte,go_sem,Nat.reduceLT,reduceCtorEq,eq_self,fT]
 refine bl (fun k s H'=>H'=H∧s 3=du ((l.take k).foldl (·|||·) 0)∧s 6= .d (.list nn (us l))∧s 7=iA l.length∧s 8=iA k) l.length hl (ar.refl _ _) ?_ ?_ ?_
 ·refine⟨rfl,?_⟩
  simp -implicitDefEqProofs only[↓reduceIte,go_sem,Nat.reduceLT,Nat.reduceEqDiff,eq_self,List.take_zero,List.foldl_nil]
  rfl
 ·rintro k s H' hk hw ⟨rfl,t3,t6,t7,t8⟩
  have hx:=nJ l k hk
  have e1:=List.take_succ_eq_append_getElem hk
  have hb:(l.take k).foldl (·|||·) 0<18446744073709551616:=ni (fun n hn=>hu n (List.mem_of_mem_take hn)) (by decide)
  have hc:=hu _ (List.getElem_mem hk)
  have e2:(l.take (k+1)).foldl (·|||·) 0=(l.take k).foldl (·|||·) 0|||l[k]:=by rw[e1,List.foldl_append];rfl
  generalize l[k]=x at hx hc e2
  generalize (l.take k).foldl (·|||·) 0=A at*
  have hor:=mB .u64 A x hb hc
  have hd:A|||x<18446744073709551616:=Nat.or_lt_two_pow (n:=64) hb hc
  simp -implicitDefEqProofs only[↓reduceIte,go_sem,Nat.reduceLT,Nat.reduceEqDiff,eq_self,t3,t6,t7,t8,hk,hx,hor,aU _ hd]
  refine eQ.same ⟨rfl,?_⟩
  simp -implicitDefEqProofs only[↓reduceIte,go_sem,Nat.reduceLT,Nat.reduceEqDiff,eq_self,t6,t7,hw,e2]
 ·rintro s H' ⟨rfl,t3,t6,t7,t8⟩
  simp -implicitDefEqProofs only[↓reduceIte,go_sem,Nat.reduceLT,Nat.reduceEqDiff,eq_self,t3,t7,t8]
  rw[List.take_length]
  refine ab.ok (qh _ (ni hu (by decide)) _) ?_
  simp -implicitDefEqProofs only[↓reduceIte,go_sem,Nat.reduceLT,eq_self]
  refine aw.bq ?_
  simp -implicitDefEqProofs only[↓reduceIte,go_sem,Nat.reduceLT,eq_self,cZ]
def a9(n:Nat):List Nat:=if h:n<128 then[n]else(n%128+128)::a9 (n/128)
termination_by n
theorem cd{n:Nat}(h:n<128):a9 n=[n]:=by rw[a9];simp[h]
theorem j9{n:Nat}(h:¬n<128):a9 n=(n%128+128)::a9 (n/128):=by rw[a9];simp[h]
theorem H9:∀m,m<256→m|||128=m%128+128:=by decide+kernel
theorem FG(n:Nat):IntKind.u8.wrap (Gb .u8 ((n%256:Nat):Int) 128)=((n%128+128:Nat):Int):=by
 have:=mB .u8 (n%256) 128 (Nat.mod_lt _ (by decide)) (by decide)
 rw[show((128:Nat):Int)=128 from rfl]at this
 rw[this,H9 _ (Nat.mod_lt _ (by decide))]
 rw[show n%256%128=n%128 from Nat.mod_mod_of_dvd n (by decide)]
 exact rZ _ (by omega) (by omega)
theorem fN(n0:Nat)(hn:n0<18446744073709551616)(H:aa):ag Tryz.prog 49 [du n0] H (.ok (.sl H.length (a9 n0).length 0 (a9 n0).length)) (H++[.arr 5 1 (a9 n0).length (aG (a9 n0))]):=by
 have s7:∀n:Nat,iF .u64 (n:Int) 7=((n/128:Nat):Int):=fun n=>wV n 7 (by decide)
 refine ag.aj (hint:=(fun _=>false)) Tryz.func49 (by kernel_rfl) rfl [2] (by kernel_rfl) (by decide) (by simp[Tryz.ntmps49]) ?_
 rw[Tryz.ntmps49]
 simp -implicitDefEqProofs only[go_sem]
 refine cC _ _ _ _ (fun(x:Nat×List Nat) s H'=>H'=H++[.arr 5 1 x.2.length (aG x.2)]∧x.1* 128^x.2.length≤n0∧(x.2.length=0∨0<x.1)∧a9 n0=x.2++a9 x.1∧s 0=du x.1∧s 3= .sl H.length x.2.length 0 x.2.length) (fun x=>x.1) (n0,[]) (ar.eU _ _ 3 5 1 (by decide) (by simp -implicitDefEqProofs only[↓reduceIte,go_sem,Nat.reduceLT,eq_self]) _) ?_ ?_
 ·refine⟨?_,by simp,.inl rfl,by simp,?_⟩
  ·simp -implicitDefEqProofs only[go_sem,eq_self,sr,List.length_nil]
  ·simp -implicitDefEqProofs only[↓reduceIte,go_sem,reduceCtorEq,eq_self,List.length_nil]
 ·rintro⟨n,bs⟩ s H' ⟨rfl,h1,h3,h2,t0,t3⟩
  simp only at h1 h2 h3 t0 t3
  have hb:bs.length<10:=by
   rcases Nat.lt_or_ge bs.length 10 with h|h
   ·exact h
   ·exfalso
    have h4:128^10≤128^bs.length:=Nat.pow_le_pow_right (by decide) h
    have h5:1* 128^bs.length≤n* 128^bs.length:=Nat.mul_le_mul_right _ (by omega)
    omega
  have hnn:n≤n0:=Nat.le_trans (Nat.le_mul_of_pos_right _ (Nat.pow_pos (by decide))) h1
  by_cases hlt:(128:Int)≤(n:Int)
  ·have hpb:=FG n
   have hp2:=j9 (n:=n) (by omega)
   generalize n%128+128=m at hpb hp2
   simp -implicitDefEqProofs only[↓reduceIte,go_sem,Nat.reduceLT,Nat.reduceLeDiff,Nat.reduceEqDiff,Int.reduceLE,reduceCtorEq,eq_self,t0,t3,hlt,nk,hpb,al,ma,s7]
   refine⟨by omega,by omega,_,_,(n/128,bs++[m]),.refl _ _,⟨?_,?_,.inr (by simp only;omega),?_,?_⟩,by simp only;omega⟩
   ·simp -implicitDefEqProofs only[go_sem,eq_self,List.length_append]
   ·simp only[List.length_append,List.length_singleton,Nat.pow_succ]
    have:n/128* (128^bs.length* 128)=(n/128* 128)* 128^bs.length:=by rw[Nat.mul_comm (128^_),←Nat.mul_assoc]
    rw[this]
    exact Nat.le_trans (Nat.mul_le_mul_right _ (Nat.div_mul_le_self n 128)) h1
   ·rw[h2,hp2];simp
   ·simp -implicitDefEqProofs only[↓reduceIte,go_sem,Nat.reduceLT,Nat.reduceEqDiff,reduceCtorEq,eq_self,List.length_append]
  ·have hm:n%256=n:=by omega
   simp -implicitDefEqProofs only[↓reduceIte,go_sem,Nat.reduceLT,Nat.reduceLeDiff,Nat.reduceEqDiff,reduceCtorEq,eq_self,t0,t3,hlt,nk,al,hm,ma]
   have:a9 n0=bs++[n]:=by rw[h2,cd (by omega)]
   rw[this,List.length_append,List.length_singleton]
   exact⟨by omega,by omega,_,ar.refl _ _,by simp -implicitDefEqProofs only[↓reduceIte,go_sem,Nat.reduceLT,eq_self]⟩
theorem mI(n0:Nat)(hn:n0<18446744073709551616)(H:aa):ag Tryz.prog 49 [du n0] H (.ok (.d (.list false (aG (a9 n0))))) H:=(fN n0 hn H).list (al _)
def byteOf:List Bool→Nat
 |[]=>0
 |b::r=>b.toNat+2* byteOf r
theorem iR:∀l:List Bool,byteOf l<2^l.length
 |[]=>by simp[byteOf]
 |b::r=>by
  have:=iR r
  simp only[byteOf,List.length_cons,Nat.pow_succ]
  cases b<;>simp<;>omega
theorem ko:∀(l:List Bool) (b:Bool),byteOf (l++[b])=byteOf l+b.toNat* 2^l.length
 |[],b=>by simp[byteOf]
 |c::r,b=>by
  simp only[List.cons_append,byteOf,ko r b,List.length_cons,Nat.pow_succ]
  rw[Nat.mul_add,←Nat.mul_assoc 2,Nat.mul_comm 2 b.toNat,Nat.mul_assoc b.toNat,Nat.mul_comm 2 (2^_)]
  omega
def er(l:List Bool)(i:Nat):Nat:=byteOf ((l.drop (8* i)).take 8)
def bW(l:List Bool):List Nat:=(List.range ((l.length+7)/8)).map (er l)
theorem cx(l:List Bool):(bW l).length=(l.length+7)/8:=by simp[bW]
def fe(l:List Bool):List Nat:=(List.range (l.length/8+1)).map (er l)
theorem Cz(l:List Bool):(fe l).length=l.length/8+1:=by simp[fe]
theorem pF{l:List Bool}(h:l.length%8=0):fe l=bW l++[0]:=by
 unfold fe bW
 rw[show(l.length+7)/8=l.length/8 by omega,List.range_succ,List.map_append]
 congr 1
 simp only[List.map_cons,List.map_nil,er]
 rw[List.drop_of_length_le (by omega)]
 rfl
theorem yD{l:List Bool}(h:¬l.length%8=0):fe l=bW l:=by
 unfold fe bW
 rw[show(l.length+7)/8=l.length/8+1 by omega]
theorem kM(l:List Bool)(i:Nat):er l i<256:=by
 have h1:=iR ((l.drop (8* i)).take 8)
 have h2:((l.drop (8* i)).take 8).length≤8:=by simp;omega
 have:2^((l.drop (8* i)).take 8).length≤2^8:=Nat.pow_le_pow_right (by decide) h2
 unfold er;omega
theorem Cr(l:List Bool):(fe l)[l.length/8]?=some (er l (l.length/8)):=by simp[fe]
theorem ov(l:List Bool):er l (l.length/8)=byteOf (l.drop (8* (l.length/8))):=by
 unfold er
 rw[List.take_of_length_le (by simp;omega)]
theorem qc(l:List Bool):er l (l.length/8)<2^(l.length%8):=by
 rw[ov]
 have:=iR (l.drop (8* (l.length/8)))
 rwa[List.length_drop,show l.length-8* (l.length/8)=l.length%8 by omega]at this
theorem xj(l:List Bool)(b:Bool):bW (l++[b])=(fe l).set (l.length/8) (er l (l.length/8)+b.toNat* 2^(l.length%8)):=by
 apply List.ext_getElem?
 intro i
 rw[List.getElem?_set]
 unfold bW fe
 simp only[List.getElem?_map,List.length_append,List.length_singleton,List.length_map,List.length_range]
 rw[show(l.length+1+7)/8=l.length/8+1 by omega]
 by_cases h:l.length/8=i
 ·subst h
  rw[if_pos rfl,if_pos (by omega),List.getElem?_range (by omega)]
  simp only[Option.map_some]
  congr 1
  rw[ov]
  unfold er
  rw[List.drop_append_of_le_length (by omega),List.take_of_length_le (by simp;omega),ko,List.length_drop,show l.length-8* (l.length/8)=l.length%8 by omega]
 ·rw[if_neg h]
  by_cases hi:i<l.length/8+1
  ·rw[List.getElem?_range hi]
   simp only[Option.map_some]
   congr 1
   unfold er
   rw[List.drop_append_of_le_length (by omega),List.take_append_of_le_length (by simp;omega)]
  ·rw[List.getElem?_eq_none (by simpa using hi)]
   rfl
def cN(n w:Nat):List Bool:=(List.range w).map fun i=>n.testBit i
theorem dG(n w:Nat):(cN n w).length=w:=by simp[cN]
theorem yO(n w:Nat):cN n (w+1)=cN n w++[n.testBit w]:=by simp[cN,List.range_succ]
def wH(G:aa)(l:List Bool):aa:=G++[.box 125 2 0 1 [.sl (G.length+1) (bW l).length 0 (bW l).length,iA l.length],.arr 5 1 (bW l).length (aG (bW l))]
theorem Gl(n i:Nat)(hn:n<18446744073709551616)(hi:i≤64):IntKind.u8.wrap (IntKind.u64.wrap (so .u64 (iF .u64 (n:Int) (i:Int)) 1))=(((n.testBit i).toNat:Nat):Int):=by
 rw[wV n i hi]
 have h1:n/2^i<18446744073709551616:=Nat.lt_of_le_of_lt (Nat.div_le_self _ _) hn
 have:=mK .u64 (n/2^i) 1 h1 (by decide)
 rw[show((1:Nat):Int)=1 from rfl]at this
 rw[this,Nat.and_one_is_mod,aU _ (by omega),qd _ (by omega),Nat.testBit_eq_decide_div_mod_eq]
 rcases Nat.mod_two_eq_zero_or_one (n/2^i)with h|h<;>rw[h]<;>rfl
theorem KA(b:Bool)(j:Nat)(hj:j<8):IntKind.u8.wrap (nq .u8 ((b.toNat:Nat):Int) (j:Int))=((b.toNat* 2^j:Nat):Int):=by
 have h1:min j 8=j:=by omega
 have h2:2^j≤2^7:=Nat.pow_le_pow_right (by decide) (by omega)
 have h3:nq .u8 ((b.toNat:Nat):Int) (j:Int)=((b.toNat* 2^j:Nat):Int):=by
  simp only[nq,IntKind.bits,Int.toNat_natCast,h1]
  norm_cast
 rw[h3]
 refine qd _ ?_
 cases b
 ·simp
 ·simp;omega
theorem K3(x:Nat)(b:Bool)(j:Nat)(hj:j<8)(hx:x<2^j):IntKind.u8.wrap (Gb .u8 (x:Int) ((b.toNat* 2^j:Nat):Int))=((x+b.toNat* 2^j:Nat):Int):=by
 have h2:2^j≤2^7:=Nat.pow_le_pow_right (by decide) (by omega)
 have h3:b.toNat* 2^j≤2^j:=by cases b<;>simp
 rw[mB .u8 x (b.toNat* 2^j) (by simp[IntKind.bits];omega) (by simp[IntKind.bits];omega)]
 have h4:x|||b.toNat* 2^j=x+b.toNat* 2^j:=by
  rw[Nat.or_comm,Nat.mul_comm,←Nat.two_pow_add_eq_or_of_lt hx]
  omega
 rw[h4]
 exact qd _ (by omega)
theorem DA(n:Nat):Int.tmod (n:Int) 8=((n%8:Nat):Int):=by rw[Int.tmod_eq_emod_of_nonneg (by omega)];rfl
theorem Gz(n:Nat):Int.tdiv (n:Int) 8=((n/8:Nat):Int):=by rw[Int.tdiv_eq_ediv_of_nonneg (by omega)];rfl
theorem kH(n w:Nat)(hw:w≤64)(hn:n<2^w)(G:aa)(l0:List Bool)(hl:l0.length≤100000000):ag Tryz.prog 67 [.ptr G.length 0 0 0,du n,iA w] (wH G l0) (.ok (iA 0)) (wH G (l0++cN n w)):=by
 have hn64:n<18446744073709551616:=Nat.lt_of_lt_of_le hn (Nat.pow_le_pow_right (by decide) hw)
 have hlen:=(fE n w).2 hn
 generalize hE:wH G (l0++cN n w)=E
 refine ag.aj (hint:=(fun _=>false)) Tryz.func67 (by kernel_rfl) rfl [6] (by kernel_rfl) (by decide) (by simp[Tryz.ntmps67]) ?_
 rw[Tryz.ntmps67]
 simp -implicitDefEqProofs only[↓reduceIte,go_sem,Nat.reduceLT,Nat.reduceEqDiff,reduceCtorEq,eq_self,wH,show((w:Int)<0)=False from eq_false (by omega),show((64:Int)<(w:Int))=False from eq_false (by omega)]
 refine ab.ok (qh n hn64 _) ?_
 simp -implicitDefEqProofs only[↓reduceIte,go_sem,Nat.reduceLT,Nat.reduceEqDiff,reduceCtorEq,eq_self,show(((w:Nat):Int)<((dN n:Nat):Int))=False from eq_false (by omega)]
 refine bl (fun k s H'=>H'=wH G (l0++cN n k)∧s 0= .ptr G.length 0 0 0∧s 1=du n∧s 24=iA w∧s 25=iA k) w (by omega) (ar.refl _ _) ?_ ?_ ?_
 ·refine⟨by simp[cN,wH],?_⟩
  simp -implicitDefEqProofs only[↓reduceIte,go_sem,Nat.reduceLT,Nat.reduceEqDiff,reduceCtorEq,eq_self]
 ·rintro k s H' hk hw2 ⟨rfl,t0,t1,t24,t25⟩
  have hs:=yO n k
  have hL:(l0++cN n k).length=l0.length+k:=by rw[List.length_append,dG]
  have hb:=Gl n k hn64 (by omega)
  have hap:l0++cN n (k+1)=(l0++cN n k)++[n.testBit k]:=by rw[hs,List.append_assoc]
  rw[hap]
  generalize n.testBit k=c at hb
  generalize l0++cN n k=l at hL⊢
  have hsn:=xj l c
  have hget:=Cr l
  have hblt:=qc l
  have hb8:=kM l (l.length/8)
  generalize er l (l.length/8)=x at hsn hget hblt hb8
  have hRl:=Cz l
  have hBl:=cx l
  have hBl2:=cx (l++[c])
  rw[List.length_append,List.length_singleton]at hBl2
  have hm8:l.length%8<8:=Nat.mod_lt _ (by decide)
  have e1:=KA c _ hm8
  have e2:=K3 x c _ hm8 hblt
  have hRget:(aG (fe l))[l.length/8]?=some [.v (.int .u8 (x:Int))]:=by simp[aG,hget]
  have hRset:(aG (fe l)).set (l.length/8) [.v (.int .u8 ((x+c.toNat* 2^(l.length%8):Nat):Int))]=aG (bW (l++[c])):=by rw[Fw,hsn]
  have hRB:(fe l).length=(bW (l++[c])).length:=by omega
  have hdlt:l.length/8<(fe l).length:=by omega
  have hfin:G++[.box 125 2 0 1 [.sl (G.length+1) (fe l).length 0 (fe l).length,iA ((l.length:Int)+1)],.arr 5 1 (fe l).length (aG (bW (l++[c])))]=wH G (l++[c]):=by
   unfold wH
   rw[hRB,List.length_append,List.length_singleton]
   rfl
  have hw3:IntKind.i64.wrap ((l.length:Int)+1)=(l.length:Int)+1:=wrap64_in _ (by omega) (by omega)
  have hwq:IntKind.i64.wrap ((l.length/8:Nat):Int)=((l.length/8:Nat):Int):=F5 _ (by omega)
  have hwk:IntKind.u64.wrap ((k:Nat):Int)=((k:Nat):Int):=aU _ (by omega)
  have hwm:IntKind.u64.wrap ((l.length%8:Nat):Int)=((l.length%8:Nat):Int):=aU _ (by omega)
  generalize c.toNat* 2^(l.length%8)=y at*
  generalize x+y=z at*
  by_cases h8:l.length%8=0
  ·have hR0:aG (bW l)++[[.v (.int .u8 0)]]=aG (fe l):=by rw[pF h8];exact ma _ 0
   have hR1:(bW l).length+1=(fe l).length:=by rw[pF h8];simp
   simp -implicitDefEqProofs only[↓reduceIte,go_sem,ah,ak,Nat.reduceAdd,Nat.reduceLT,Nat.reduceLeDiff,Nat.reduceEqDiff,Int.reduceEq,reduceCtorEq,eq_self,wH,t0,t24,t25,hk,DA,h8,al,hR0,hR1]
   refine⟨by omega,by omega,?_⟩
   refine fu 25 K.mixed (by kernel_rfl) (by kernel_rfl) ?_
   simp -implicitDefEqProofs only[↓reduceIte,go_sem,ah,ak,Nat.reduceAdd,Nat.reduceLT,Nat.reduceLeDiff,Nat.reduceEqDiff,Int.reduceEq,reduceCtorEq,eq_self,t0,t1,t25,Gz,DA,hwq,hwk,hwm,hRget,hdlt,hb,e1,e2]
   refine eQ.same ⟨?_,?_⟩
   ·simp -implicitDefEqProofs only[go_sem,eq_self,hRset,hw3,hfin]
   ·simp -implicitDefEqProofs only[↓reduceIte,go_sem,Nat.reduceLT,Nat.reduceEqDiff,reduceCtorEq,eq_self,t0,t1,t24,hw2]
  ·have h8':(((l.length%8:Nat):Int)=0)=False:=eq_false (by omega)
   rw[yD h8]at*
   simp -implicitDefEqProofs only[↓reduceIte,go_sem,ah,Nat.reduceAdd,Nat.reduceLT,Nat.reduceEqDiff,Int.reduceEq,reduceCtorEq,eq_self,wH,t0,t24,t25,hk,DA,h8']
   refine fu 25 K.mixed (by kernel_rfl) (by kernel_rfl) ?_
   simp -implicitDefEqProofs only[↓reduceIte,go_sem,ah,ak,Nat.reduceAdd,Nat.reduceLT,Nat.reduceLeDiff,Nat.reduceEqDiff,Int.reduceEq,reduceCtorEq,eq_self,t0,t1,t25,Gz,DA,hwq,hwk,hwm,hRget,hdlt,hb,e1,e2]
   refine eQ.same ⟨?_,?_⟩
   ·simp -implicitDefEqProofs only[go_sem,eq_self,hRset,hw3,hfin]
   ·simp -implicitDefEqProofs only[↓reduceIte,go_sem,Nat.reduceLT,Nat.reduceEqDiff,reduceCtorEq,eq_self,t0,t1,t24,hw2]
 ·rintro s H' ⟨rfl,t0,t1,t24,t25⟩
  simp -implicitDefEqProofs only[↓reduceIte,go_sem,Nat.reduceLT,eq_self,t24,t25]
  rw[hE]
  exact⟨_,ar.refl _ _,by simp -implicitDefEqProofs only[↓reduceIte,go_sem,Nat.reduceLT,eq_self]⟩
theorem nP(G:aa)(l:List Bool)(hl:l.length≤100000000):ag Tryz.prog 68 [.ptr G.length 0 0 0] (wH G l) (.ok (.d (.list false (aG (bW l))))) (wH G l):=by
 have:=cx l
 generalize hE:wH G l=E
 have hE2:=hE
 rw[wH]at hE2
 refine ag.aj (hint:=(fun _=>false)) Tryz.func68 (by kernel_rfl) rfl [2] (by kernel_rfl) (by decide) (by simp[Tryz.ntmps68]) ?_
 rw[Tryz.ntmps68]
 rw[←hE]
 simp -implicitDefEqProofs only[↓reduceIte,go_sem,ah,Nat.reduceAdd,Nat.reduceLT,Nat.reduceLeDiff,Nat.reduceEqDiff,reduceCtorEq,eq_self,wH,show(aG (bW l)).take (bW l).length=aG (bW l)from dD _ _ (al _),aS,al]
 refine⟨by omega,by omega,aw.Kr (T:=[.arr 5 1 1 (aG (bW l))]) (by simp) ?_⟩
 simp -implicitDefEqProofs only[↓reduceIte,go_sem,Nat.reduceAdd,Nat.reduceLT,eq_self,show(aG (bW l)).take (bW l).length=aG (bW l)from dD _ _ (al _)]
def dm(l:List Nat)(w:Nat):List Bool:=l.flatMap fun n=>cN n w
def cI(l:List Nat)(w:Nat):List Nat:=bW (dm l w)
theorem oZ(l:List Nat)(n w:Nat):dm (l++[n]) w=dm l w++cN n w:=by simp[dm]
theorem en(l:List Nat)(w:Nat):(dm l w).length=l.length* w:=by
 induction l with
 |nil=>simp[dm]
 |cons x l ih=>
  have:dm (x::l) w=cN x w++dm l w:=rfl
  rw[this,List.length_append,ih,dG,List.length_cons,Nat.add_mul];omega
theorem rL(l:List Nat)(w:Nat)(hw:w≤64)(hn:∀n∈l,n<2^w)(hl:l.length≤1000000)(nn:Bool)(H:aa):
  ag Tryz.prog 121 [.d (.list nn (us l)),iA w] H (.ok (.bf [.d (.list false (aG (cI l w))),iA 0])) H:=by
 have z0:wH H []=H++[.box 125 2 0 1 [.sl (H.length+1) 0 0 0,iA 0],.arr 5 1 0 []]:=rfl
 have h0:0<2^w:=Nat.two_pow_pos w
 have hbl:=en l w
 have hbig:l.length* w≤1000000* 64:=Nat.mul_le_mul hl hw
 refine ag.aj (hint:=(fun t=>t==1000002||t==1000005||t==1000006)) Tryz.func121 (by kernel_rfl) rfl [4,5] (by kernel_rfl) (by decide) (by simp[Tryz.ntmps121]) ?_
 rw[Tryz.ntmps121]
 simp -implicitDefEqProofs only[↓reduceIte,go_sem,Nat.reduceAdd,Nat.reduceLT,Nat.reduceEqDiff,Nat.reduceBEq,eq_self]
 refine⟨_,_,ar.kK _ _ H.length 125 2 0 1 [.d (.v (.slice none 0 0)),iA 0] 0 _ 5 1 (by decide) (by simp) rfl rfl,?_⟩
 simp -implicitDefEqProofs only[↓reduceIte,go_sem,Nat.reduceLT,Nat.reduceEqDiff,eq_self]
 rw[←z0]
 refine ab.ok (kH 0 w hw h0 H [] (by simp)) ?_
 simp -implicitDefEqProofs only[↓reduceIte,go_sem,Nat.reduceAdd,Nat.reduceLT,Nat.reduceEqDiff,Nat.reduceBEq,eq_self]
 refine⟨_,_,(by unfold wH;exact ar.drop H _ _),?_⟩
 simp -implicitDefEqProofs only[↓reduceIte,go_sem,Nat.reduceLT]
 refine⟨_,_,ar.kK _ _ H.length 125 2 0 1 [.d (.v (.slice none 0 0)),iA 0] 0 _ 5 1 (by decide) (by simp) rfl rfl,?_⟩
 simp -implicitDefEqProofs only[↓reduceIte,go_sem,reduceCtorEq,fT]
 rw[←z0]
 refine bl (fun k s H'=>H'=wH H (dm (l.take k) w)∧s 1=iA w∧s 6= .ptr H.length 0 0 0∧s 21= .d (.list nn (us l))∧s 22=iA l.length∧s 23=iA k) l.length (by omega) (ar.refl _ _) ?_ ?_ ?_
 ·refine⟨by simp[dm],?_⟩
  simp -implicitDefEqProofs only[↓reduceIte,go_sem,Nat.reduceLT,Nat.reduceEqDiff,reduceCtorEq,eq_self]
 ·rintro k s H' hk hw2 ⟨rfl,t1,t6,t21,t22,t23⟩
  have hx:=nJ l k hk
  have e1:=List.take_succ_eq_append_getElem hk
  have hc:=hn _ (List.getElem_mem hk)
  have e2:dm (l.take (k+1)) w=dm (l.take k) w++cN l[k] w:=by rw[e1,oZ]
  have e3:=en (l.take k) w
  have e4:(l.take k).length* w≤1000000* 64:=Nat.mul_le_mul (by simp;omega) hw
  generalize l[k]=x at hx hc e2
  simp -implicitDefEqProofs only[↓reduceIte,go_sem,Nat.reduceAdd,Nat.reduceLT,Nat.reduceEqDiff,Nat.reduceBEq,eq_self,t1,t6,t21,t22,t23,hk,hx]
  refine ab.ok (kH x w hw hc H _ (by omega)) ?_
  simp -implicitDefEqProofs only[↓reduceIte,go_sem,Nat.reduceAdd,Nat.reduceLT,Nat.reduceEqDiff,Nat.reduceBEq,eq_self,t23]
  refine eQ.same ⟨by rw[e2],?_⟩
  simp -implicitDefEqProofs only[↓reduceIte,go_sem,Nat.reduceLT,Nat.reduceEqDiff,eq_self,t1,t6,t21,t22,hw2]
 ·rintro s H' ⟨rfl,t1,t6,t21,t22,t23⟩
  rw[List.take_length]
  simp -implicitDefEqProofs only[↓reduceIte,go_sem,Nat.reduceAdd,Nat.reduceLT,Nat.reduceEqDiff,Nat.reduceBEq,eq_self,t6,t22,t23]
  refine ab.ok (nP H (dm l w) (by omega)) ?_
  simp -implicitDefEqProofs only[↓reduceIte,go_sem,Nat.reduceLT,eq_self]
  unfold wH
  refine aw.ret ?_
  simp -implicitDefEqProofs only[↓reduceIte,go_sem,Nat.reduceLT,Nat.reduceEqDiff,eq_self,cI]
theorem gd{n:Int}(h1:-9223372036854775808≤n)(h2:n≤9223372036854775807):fU n<18446744073709551616:=by unfold fU;split<;>omega
theorem dy(n:Int):-9223372036854775808≤IntKind.i64.wrap n∧IntKind.i64.wrap n≤9223372036854775807:=by
 have h1:=Int.emod_nonneg n (show(18446744073709551616:Int)≠0 by decide)
 have h2:=Int.emod_lt_of_pos n (show(0:Int)<18446744073709551616 by decide)
 simp only[IntKind.wrap,IntKind.signed,IntKind.bits]
 simp only[show((2:Int)^64)=18446744073709551616 from rfl,show((2:Int)^(64-1))=9223372036854775808 from rfl]
 generalize n%18446744073709551616=m at*
 by_cases h:m≥9223372036854775808<;>simp[h]<;>omega
theorem Bx{l:List Nat}:∀{a:Nat},a≤l.foldl (·|||·) a∧∀n∈l,n≤l.foldl (·|||·) a:=by
 induction l with
 |nil=>intro a;exact⟨Nat.le_refl _,fun n hn=>by simp at hn⟩
 |cons x l ih=>
  intro a
  simp only[List.foldl_cons]
  have h:=ih (a:=a|||x)
  refine⟨Nat.le_trans Nat.left_le_or h.1,fun n hn=>?_⟩
  rcases List.mem_cons.1 hn with rfl|hn
  ·exact Nat.le_trans Nat.right_le_or h.1
  ·exact h.2 n hn
theorem n6{l:List Nat}:∀n∈l,n<2^cZ l:=fun n hn=>Nat.lt_of_le_of_lt (Bx.2 n hn) ((fE _ _).1 (Nat.le_refl _))
theorem kS{l:List Nat}(h:∀n∈l,n<18446744073709551616):cZ l≤64:=Ac (ni h (by decide))
theorem bn:∀(k n:Nat),n<128^k→(a9 n).length≤k+1:=by
 intro k
 induction k with
 |zero=>intro n hn;rw[cd (by omega)];simp
 |succ k ih=>
  intro n hn
  by_cases h:n<128
  ·rw[cd h];simp
  ·rw[j9 h,List.length_cons]
   have:=ih (n/128) (by rw[Nat.div_lt_iff_lt_mul (by decide)];exact hn)
   omega
theorem dX{l:List ai}{k:Int}(h:aL l k=0):l.length≤4096:=by
 unfold aL at h
 by_cases h1:4096<l.length
 ·rw[if_pos h1]at h
  split at h<;>omega
 ·omega
def nD(l:List Nat):ByteArray:=eZ (l.map fun(n:Nat)=>(n:Int))
theorem dZ:∀l:List Nat,fC (aG l)=some (l.map fun(n:Nat)=>(n:Int))
 |[]=>rfl
 |n::l=>by
  show fC ([.v (.int .u8 (n:Int))]::aG l)=_
  simp only[fC,dZ l];rfl
theorem mi(l:List Nat):eZ (l.map fun(n:Nat)=>(n:Int))=nD l:=rfl
theorem tQ(ns:List Int)(b:ByteArray):(ns.foldl (fun r n=>r.push (UInt8.ofNat n.toNat)) b).data.toList=b.data.toList++ns.map fun n=>UInt8.ofNat n.toNat:=by
 induction ns generalizing b with
 |nil=>simp
 |cons n ns ih=>rw[List.foldl_cons,ih];simp[ByteArray.push]
theorem iN(l:List Nat):(nD l).toList=l.map UInt8.ofNat:=by
 rw[ByteArray.toList_eq]
 unfold nD eZ
 rw[tQ]
 simp[List.map_map,Function.comp_def]
def b6(l:List Nat):Prop:=∀n∈l,n<256
theorem ofNat_inj{a b:Nat}(ha:a<256)(hb:b<256)(h:UInt8.ofNat a=UInt8.ofNat b):a=b:=by
 have:=congrArg UInt8.toNat h
 simpa[Nat.mod_eq_of_lt ha,Nat.mod_eq_of_lt hb]using this
theorem vg:∀{l m:List Nat},b6 l→b6 m→l.map UInt8.ofNat=m.map UInt8.ofNat→l=m
 |[],[],_,_,_=>rfl
 |[],_::_,_,_,h=>by simp at h
 |_::_,[],_,_,h=>by simp at h
 |a::l,b::m,hl,hm,h=>by
  simp only[List.map_cons,List.cons.injEq]at h
  rw[ofNat_inj (hl a (by simp)) (hm b (by simp)) h.1,vg (fun n hn=>hl n (by simp[hn])) (fun n hn=>hm n (by simp[hn])) h.2]
theorem CN{l m:List Nat}(hl:b6 l)(hm:b6 m):((nD l).toList==(nD m).toList)=decide (l=m):=by
 rw[iN,iN,Bool.eq_iff_iff]
 simp only[beq_iff_eq,decide_eq_true_eq]
 exact⟨vg hl hm,fun h=>by rw[h]⟩
theorem dV(l:List Nat)(k:Nat):(aG l).drop k=aG (l.drop k):=by simp[aG,List.map_drop]
theorem vu(l:List Nat)(k:Nat):(aG l).take k=aG (l.take k):=by simp[aG,List.map_take]
def ca(n:Int):ai:=⟨1,n,dA⟩
theorem vf(n:Int):cT (ca n)=true:=by simp[cT,ca,gr]
theorem yH{l:List ai}(h:∀v∈l,∃n,v=ca n)(hl:l.length≤4096):aL l 1=0:=by
 have h1:l.any (fun v=> !decide (v.kind=1))=false:=by
  rw[List.any_eq_false]
  intro v hv
  obtain⟨n,rfl⟩:=h v hv
  simp[ca]
 have h2:l.any (fun v=> !cT v)=false:=by
  rw[List.any_eq_false]
  intro v hv
  obtain⟨n,rfl⟩:=h v hv
  simp[vf]
 unfold aL
 rw[h1,h2]
 simp[bI,show ¬4096<l.length by omega]
theorem Cj:∀(k n:Nat),n<128^k→b6 (a9 n):=by
 intro k
 induction k with
 |zero=>intro n hn m hm;rw[cd (by omega)]at hm;simp at hm;omega
 |succ k ih=>
  intro n hn
  by_cases h:n<128
  ·rw[cd h];intro m hm;simp at hm;omega
  ·rw[j9 h]
   intro m hm
   rcases List.mem_cons.1 hm with rfl|hm
   ·omega
   ·exact ih (n/128) (by rw[Nat.div_lt_iff_lt_mul (by decide)];exact hn) m hm
theorem cV{n:Nat}(h:n<18446744073709551616):b6 (a9 n):=Cj 10 n (by omega)
theorem yQ(l:List Nat)(w:Nat):b6 (cI l w):=by
 intro n hn
 unfold cI bW at hn
 obtain⟨i,_,rfl⟩:=List.mem_map.1 hn
 exact kM _ _
theorem b6.app{l m:List Nat}(hl:b6 l)(hm:b6 m):b6 (l++m):=fun n hn=>by
 rcases List.mem_append.1 hn with h|h
 ·exact hl n h
 ·exact hm n h
def fb(s:ByteArray):List Nat:=s.data.toList.map UInt8.toNat
theorem gU(s:ByteArray):(fb s).length=s.size:=by simp[fb]
theorem ui(s:ByteArray):∀c∈fb s,c<256:=fun c hc=>by
 obtain⟨x,_,rfl⟩:=List.mem_map.1 hc
 exact x.toNat_lt
theorem yj(s:ByteArray):bK s=aG (fb s):=by
 unfold bK aG fb
 rw[List.map_map]
 rfl
def lk(s:ByteArray):List Nat:=a9 s.size++fb s
theorem Bs(s:ByteArray)(hs:s.size≤100000000000000)(H:aa):ag Tryz.prog 66 [sA s] H (.ok (.d (.list false (aG (lk s))))) H:=by
 refine ag.aj (hint:=(fun _=>false)) Tryz.func66 (by kernel_rfl) rfl [2] (by kernel_rfl) (by decide) (by simp[Tryz.ntmps66]) ?_
 rw[Tryz.ntmps66]
 simp -implicitDefEqProofs only[↓reduceIte,go_sem,Nat.reduceLT,reduceCtorEq,eq_self,aU s.size (by omega)]
 refine ab.ok (fN s.size (by omega) _) ?_
 have hl:=bn 10 s.size (by omega)
 have hsl:=gU s
 simp -implicitDefEqProofs only[↓reduceIte,go_sem,Nat.reduceLT,Nat.reduceEqDiff,reduceCtorEq,eq_self,yj,al,aS,eB]
 refine⟨by omega,by omega,aw.ret ?_⟩
 have ht:(aG (a9 s.size++fb s)).take ((a9 s.size).length+(fb s).length)=aG (a9 s.size++fb s):=List.take_of_length_le (by rw[al,List.length_append];omega)
 simp -implicitDefEqProofs only[↓reduceIte,go_sem,Nat.reduceLT,eq_self,ht,lk]
def ph(n:Nat):List Nat:=(List.range 8).map fun i=>n/256^(7-i)%256
theorem im(n:Nat):(ph n).length=8:=by simp[ph]
theorem va(n k:Nat)(h:k<8):(ph n).take (k+1)=(ph n).take k++[n/256^(7-k)%256]:=by
 rw[List.take_succ_eq_append_getElem (by rw[im];exact h)]
 simp[ph]
theorem po{v:ai}(hm:cT v=true)(h3:v.kind=3):v.s.size≤1024:=by
 unfold cT at hm
 rw[if_neg (by omega),if_neg (by omega),if_pos h3]at hm
 simp at hm
 exact hm.2
def cS(v:ai):List Nat:=if v.kind=1 then a9 (fU v.i)else if v.kind=2 then ph (eo (jk v.i))else if v.kind=3 then lk v.s else[]
theorem ey(v:ai)(hi:-9223372036854775808≤v.i∧v.i≤9223372036854775807)(hm:cT v=true)(H:aa):
  ag Tryz.prog 34 [v.av] H (.ok (.bf [.d (.list false (aG (cS v))),iA 0])) H:=by
 by_cases h1:v.kind=1
 ·have e:cS v=a9 (fU v.i):=by unfold cS;rw[if_pos h1]
  rw[e]
  refine ag.aj (hint:=(fun _=>false)) Tryz.func34 (by kernel_rfl) rfl [2,3] (by kernel_rfl) (by decide) (by simp[Tryz.ntmps34]) ?_
  rw[Tryz.ntmps34]
  simp -implicitDefEqProofs only[↓reduceIte,go_sem,ah,Nat.reduceAdd,Nat.reduceLT,Nat.reduceEqDiff,eq_self]
  refine ab.ok (iX v _) ?_
  simp -implicitDefEqProofs only[↓reduceIte,go_sem,ah,Nat.reduceAdd,Nat.reduceLT,Nat.reduceLeDiff,Nat.reduceEqDiff,eq_self,hm,eq_true h1]
  refine ab.ok (qj v.i hi.1 hi.2 _) ?_
  simp -implicitDefEqProofs only[↓reduceIte,go_sem,Nat.reduceLT,eq_self]
  refine ab.ok (mI (fU v.i) (gd hi.1 hi.2) _) ?_
  simp -implicitDefEqProofs only[↓reduceIte,go_sem,Nat.reduceLT,eq_self]
  refine aw.ret ?_
  simp -implicitDefEqProofs only[↓reduceIte,go_sem,Nat.reduceLT,Nat.reduceEqDiff,eq_self]
 by_cases h2:v.kind=2
 ·have e:cS v=ph (eo (jk v.i)):=by unfold cS;rw[if_neg h1,if_pos h2]
  have hk:=z8 (jk v.i) (km _)
  rw[e]
  refine ag.aj (hint:=(fun _=>false)) Tryz.func34 (by kernel_rfl) rfl [2,3] (by kernel_rfl) (by decide) (by simp[Tryz.ntmps34]) ?_
  rw[Tryz.ntmps34]
  simp -implicitDefEqProofs only[↓reduceIte,go_sem,ah,Nat.reduceAdd,Nat.reduceLT,Nat.reduceEqDiff,eq_self]
  refine ab.ok (iX v _) ?_
  simp -implicitDefEqProofs only[↓reduceIte,go_sem,ah,Nat.reduceAdd,Nat.reduceLT,Nat.reduceLeDiff,Nat.reduceEqDiff,eq_self,hm,h1,eq_true h2,pt]
  refine ab.ok (iQ _ (km _) _) ?_
  generalize eo (jk v.i)=n at*
  simp -implicitDefEqProofs only[↓reduceIte,go_sem,Nat.reduceLT,eq_self]
  refine bl (fun k s H'=>H'=H++[.box 25 3 0 1 [iA v.kind,iA v.i,sA v.s],.arr 5 1 k (aG ((ph n).take k))]∧s 4=du n∧s 5= .sl (H.length+1) k 0 k∧s 24=iA k) 8 (by omega) (ar.eU _ _ 5 5 1 (by decide) (by simp -implicitDefEqProofs only[↓reduceIte,go_sem,Nat.reduceLT,Nat.reduceEqDiff,eq_self]) _) ?_ ?_ ?_
  ·refine⟨?_,?_⟩
   ·simp -implicitDefEqProofs only[go_sem,eq_self,List.take_zero,sr]
   ·simp -implicitDefEqProofs only[↓reduceIte,go_sem,Nat.reduceLT,Nat.reduceEqDiff,eq_self]
  ·rintro k s H' hk2 hw ⟨rfl,t4,t5,t24⟩
   have hk8:((k:Int)<8)=True:=eq_true (by omega)
   have e1:=va n k hk2
   have el:((ph n).take k).length=k:=by rw[List.length_take,im];omega
   have w1:IntKind.i64.wrap (7-(k:Int))=((7-k:Nat):Int):=by rw[wrap64_in _ (by omega) (by omega)];omega
   have w2:IntKind.i64.wrap (8* ((7-k:Nat):Int))=((8* (7-k):Nat):Int):=by rw[wrap64_in _ (by omega) (by omega)];omega
   have w3:IntKind.u64.wrap ((8* (7-k):Nat):Int)=((8* (7-k):Nat):Int):=aU _ (by omega)
   have w4:iF .u64 (n:Int) ((8* (7-k):Nat):Int)=((n/256^(7-k):Nat):Int):=by
    rw[wV n (8* (7-k)) (by omega),Nat.pow_mul]
   have w5:IntKind.u64.wrap ((n/256^(7-k):Nat):Int)=((n/256^(7-k):Nat):Int):=aU _ (Nat.lt_of_le_of_lt (Nat.div_le_self _ _) hk)
   rw[e1]
   generalize n/256^(7-k)=m at*
   generalize hq:((8* (7-k):Nat):Int)=q at*
   generalize ((7-k:Nat):Int)=q2 at*
   generalize (ph n).take k=B at*
   simp -implicitDefEqProofs only[↓reduceIte,go_sem,Nat.reduceAdd,Nat.reduceLT,Nat.reduceLeDiff,Nat.reduceEqDiff,eq_self,t4,t5,t24,hk8,w1,w2,w3,w4,nk,al,el,ma]
   refine⟨by omega,by omega,by omega,eQ.same ⟨?_,?_⟩⟩
   ·simp -implicitDefEqProofs only[go_sem,eq_self]
   ·simp -implicitDefEqProofs only[↓reduceIte,go_sem,Nat.reduceLT,Nat.reduceEqDiff,eq_self,t4,hw]
  ·rintro s H' ⟨rfl,t4,t5,t24⟩
   rw[show(ph n).take 8=ph n from List.take_of_length_le (by rw[im];exact Nat.le_refl _)]
   simp -implicitDefEqProofs only[↓reduceIte,go_sem,Nat.reduceLT,Nat.reduceEqDiff,Int.reduceLT,eq_self,t5,t24]
   refine aw.ret ?_
   simp -implicitDefEqProofs only[↓reduceIte,go_sem,Nat.reduceLT,Nat.reduceEqDiff,eq_self,show(aG (ph n)).take 8=aG (ph n)from List.take_of_length_le (by rw[al,im];exact Nat.le_refl _)]
 by_cases h3:v.kind=3
 ·have e:cS v=lk v.s:=by unfold cS;rw[if_neg h1,if_neg h2,if_pos h3]
  have hs:=po hm h3
  rw[e]
  refine ag.aj (hint:=(fun _=>false)) Tryz.func34 (by kernel_rfl) rfl [2,3] (by kernel_rfl) (by decide) (by simp[Tryz.ntmps34]) ?_
  rw[Tryz.ntmps34]
  simp -implicitDefEqProofs only[↓reduceIte,go_sem,ah,Nat.reduceAdd,Nat.reduceLT,Nat.reduceEqDiff,eq_self]
  refine ab.ok (iX v _) ?_
  simp -implicitDefEqProofs only[↓reduceIte,go_sem,ah,Nat.reduceAdd,Nat.reduceLT,Nat.reduceLeDiff,Nat.reduceEqDiff,eq_self,hm,h1,h2,eq_true h3]
  refine ab.ok (Bs v.s (by omega) _) ?_
  simp -implicitDefEqProofs only[↓reduceIte,go_sem,Nat.reduceLT,eq_self]
  refine aw.ret ?_
  simp -implicitDefEqProofs only[↓reduceIte,go_sem,Nat.reduceLT,Nat.reduceEqDiff,eq_self]
 ·have e:cS v=[]:=by unfold cS;rw[if_neg h1,if_neg h2,if_neg h3]
  rw[e]
  refine ag.bY (cs:=[.d (.v (.slice none 0 0)),iA 0]) ?_ (.cons .nil (.cons (.refl _) .nil))
  refine ag.aj (hint:=(fun _=>false)) Tryz.func34 (by kernel_rfl) rfl [2,3] (by kernel_rfl) (by decide) (by simp[Tryz.ntmps34]) ?_
  rw[Tryz.ntmps34]
  simp -implicitDefEqProofs only[↓reduceIte,go_sem,ah,Nat.reduceAdd,Nat.reduceLT,Nat.reduceEqDiff,eq_self]
  refine ab.ok (iX v _) ?_
  simp -implicitDefEqProofs only[↓reduceIte,go_sem,ah,Nat.reduceAdd,Nat.reduceLT,Nat.reduceLeDiff,Nat.reduceEqDiff,eq_self,hm,h1,h2,h3]
  refine aw.ret ?_
  simp -implicitDefEqProofs only[↓reduceIte,go_sem,Nat.reduceLT,Nat.reduceEqDiff,eq_self]
end Go.Proofs.YtmbagpfmfiegkaaGreat
namespace Go.Proofs.YtmbagpfmfiegkaaGreat
namespace St
variable {α:Type}
structure Ord (lt:α→α→Bool):Prop where
 wx:∀x y,lt x y=true→lt y x=false
 cK:∀x y z,lt x z=true→lt x y=true∨lt y z=true
variable {lt:α→α→Bool} {l:List α}
theorem Ord.F4(h:Ord lt)(x:α):lt x x=false:=by
 cases e:lt x x with
 |false=>rfl
 |true=>rw[h.wx x x e]at e;cases e
theorem Ord.trans(h:Ord lt){x y z:α}(h1:lt x y=true)(h2:lt y z=true):lt x z=true:=by
 rcases h.cK x z y h1 with h3|h3
 ·exact h3
 ·rw[h.wx y z h2]at h3;cases h3
theorem Ord.le_trans(h:Ord lt){x y z:α}(h1:lt y x=false)(h2:lt z y=false):lt z x=false:=by
 cases e:lt z x with
 |false=>rfl
 |true=>
  rcases h.cK z y x e with h3|h3
  ·rw[h2]at h3;cases h3
  ·rw[h1]at h3;cases h3
theorem Ord.F8(h:Ord lt){x y z:α}(h1:lt x y=true)(h2:lt z y=false):lt x z=true:=by
 rcases h.cK x z y h1 with h3|h3
 ·exact h3
 ·rw[h2]at h3;cases h3
theorem Ord.Iv(h:Ord lt){x y z:α}(h1:lt y x=false)(h2:lt y z=true):lt x z=true:=by
 rcases h.cK y x z h2 with h3|h3
 ·rw[h1]at h3;cases h3
 ·exact h3
def aD(lt:α→α→Bool)(l:List α):Prop:=l.Pairwise fun x y=>lt y x=false
def eqv(lt:α→α→Bool)(x y:α):Bool:= !lt x y&& !lt y x
theorem oT{x y:α}:eqv lt x y=true↔lt x y=false∧lt y x=false:=by simp[eqv]
def cz(lt:α→α→Bool)(l m:List α):Prop:=∀x,l.filter (eqv lt x)=m.filter (eqv lt x)
theorem cz.refl(l:List α):cz lt l l:=fun _=>rfl
theorem cz.symm{l m:List α}(h:cz lt l m):cz lt m l:=fun x=>(h x).symm
theorem cz.trans{l m n:List α}(h:cz lt l m)(g:cz lt m n):cz lt l n:=fun x=>(h x).trans (g x)
theorem cz.app{l l' m m':List α}(h:cz lt l l')(g:cz lt m m'):cz lt (l++m) (l'++m'):=fun x=>by rw[List.filter_append,List.filter_append,h x,g x]
theorem ur(ho:Ord lt)(x:α):eqv lt x x=true:=oT.2 ⟨ho.F4 x,ho.F4 x⟩
theorem cz.mem(ho:Ord lt){l m:List α}(h:cz lt l m){x:α}(hx:x∈l):x∈m:=by
 have:x∈l.filter (eqv lt x):=List.mem_filter.2 ⟨hx,ur ho x⟩
 rw[h x]at this
 exact(List.mem_filter.1 this).1
theorem cz.mem_iff(ho:Ord lt){l m:List α}(h:cz lt l m){x:α}:x∈l↔x∈m:=⟨h.mem ho,h.symm.mem ho⟩
theorem cz.swap(ho:Ord lt){u v:List α}(h:∀x∈u,∀y∈v,lt y x=true):cz lt (u++v) (v++u):=by
 intro c
 rw[List.filter_append,List.filter_append]
 by_cases hu:∃x∈u,eqv lt c x=true
 ·obtain⟨x,hx,hc⟩:=hu
  have:v.filter (eqv lt c)=[]:=by
   rw[List.filter_eq_nil_iff]
   intro y hy hcy
   have h1:=oT.1 hc
   have h2:=oT.1 hcy
   have h3:=h x hx y hy
   rcases ho.cK y c x h3 with h4|h4
   ·rw[h2.2]at h4;cases h4
   ·rw[h1.1]at h4;cases h4
  rw[this];simp
 ·have:u.filter (eqv lt c)=[]:=by
   rw[List.filter_eq_nil_iff]
   intro x hx hc
   exact hu ⟨x,hx,hc⟩
  rw[this];simp
theorem uniq(ho:Ord lt):∀{l m:List α},aD lt l→aD lt m→cz lt l m→l=m
 |[],[],_,_,_=>rfl
 |[],b::t,_,_,h=>by have:=h.symm.mem ho (List.mem_cons_self (a:=b) (l:=t));simp at this
 |a::t,[],_,_,h=>by have:=h.mem ho (List.mem_cons_self (a:=a) (l:=t));simp at this
 |a::t,b::t',hl,hm,h=>by
  have ha:a∈b::t':=h.mem ho (List.mem_cons_self ..)
  have hb:b∈a::t:=h.symm.mem ho (List.mem_cons_self ..)
  have h1:lt a b=false:=by
   rcases List.mem_cons.1 ha with rfl|ha
   ·exact ho.F4 _
   ·exact(List.pairwise_cons.1 hm).1 a ha
  have h2:lt b a=false:=by
   rcases List.mem_cons.1 hb with rfl|hb
   ·exact ho.F4 _
   ·exact(List.pairwise_cons.1 hl).1 b hb
  have e1:eqv lt a a=true:=ur ho a
  have e2:eqv lt a b=true:=oT.2 ⟨h1,h2⟩
  have h3:=h a
  rw[List.filter_cons_of_pos e1,List.filter_cons_of_pos e2]at h3
  obtain rfl:a=b:=(List.cons.inj h3).1
  have:t=t':=uniq ho (List.pairwise_cons.1 hl).2 (List.pairwise_cons.1 hm).2 fun x=>by
   have h4:=h x
   by_cases hx:eqv lt x a=true
   ·rw[List.filter_cons_of_pos hx,List.filter_cons_of_pos hx]at h4
    exact(List.cons.inj h4).2
   ·rw[List.filter_cons_of_neg hx,List.filter_cons_of_neg hx]at h4
    exact h4
  rw[this]
def ins(lt:α→α→Bool)(x:α):List α→List α
 |[]=>[x]
 |y::t=>if lt y x then y::ins lt x t else x::y::t
def bN(lt:α→α→Bool)(l:List α):List α:=l.foldr (ins lt) []
theorem Aa{x z:α}:∀{l:List α},z∈ins lt x l↔z=x∨z∈l
 |[]=>by simp[ins]
 |y::t=>by
  unfold ins
  split
  ·rw[List.mem_cons,Aa,List.mem_cons]
   constructor
   ·rintro(h|h|h)
    ·exact .inr (.inl h)
    ·exact .inl h
    ·exact .inr (.inr h)
   ·rintro(h|h|h)
    ·exact .inr (.inl h)
    ·exact .inl h
    ·exact .inr (.inr h)
  ·simp
theorem p5(ho:Ord lt)(x:α):∀{l:List α},aD lt l→aD lt (ins lt x l)
 |[],_=>by simp[ins,aD]
 |y::t,h=>by
  have h':=List.pairwise_cons.1 h
  unfold ins
  split
  ·rename_i hy
   refine List.pairwise_cons.2 ⟨fun z hz=>?_,p5 ho x h'.2⟩
   rcases Aa.1 hz with rfl|hz
   ·exact ho.wx _ _ hy
   ·exact h'.1 z hz
  ·rename_i hy
   have hy:lt y x=false:=by simpa using hy
   refine List.pairwise_cons.2 ⟨fun z hz=>?_,h⟩
   rcases List.mem_cons.1 hz with rfl|hz
   ·exact hy
   ·exact ho.le_trans hy (h'.1 z hz)
theorem uF(ho:Ord lt)(x:α):∀l:List α,cz lt (ins lt x l) (x::l)
 |[]=> .refl _
 |y::t=>by
  unfold ins
  split
  ·rename_i hy
   have h1:cz lt ([y]++ins lt x t) ([y]++(x::t)):=cz.app (.refl _) (uF ho x t)
   refine h1.trans ?_
   have h2:cz lt ([y]++[x]) ([x]++[y]):=(cz.swap ho (u:=[x]) (v:=[y]) (by simpa using hy)).symm
   have:=cz.app h2 (.refl t)
   simpa using this
  ·exact .refl _
theorem cQ(ho:Ord lt):∀l:List α,aD lt (bN lt l)
 |[]=>List.Pairwise.nil
 |x::l=>p5 ho x (cQ ho l)
theorem eG(ho:Ord lt):∀l:List α,cz lt (bN lt l) l
 |[]=> .refl _
 |x::l=>(uF ho x _).trans (cz.app (l:=[x]) (.refl _) (eG ho l))
theorem zT(x:α):∀l:List α,(ins lt x l).length=l.length+1
 |[]=>rfl
 |y::t=>by unfold ins;split<;>simp[zT x t]
theorem cG:∀l:List α,(bN lt l).length=l.length
 |[]=>rfl
 |x::l=>by
  show(ins lt x (bN lt l)).length=_
  rw[zT,cG l];rfl
theorem mW(ho:Ord lt){l:List α}{x:α}:x∈bN lt l↔x∈l:=(eG ho l).mem_iff ho
theorem l9(ho:Ord lt){l m:List α}(h1:aD lt m)(h2:cz lt m l):bN lt l=m:=uniq ho (cQ ho l) h1 ((eG ho l).trans h2.symm)
theorem eC(ho:Ord lt){l:List α}(h:aD lt l):bN lt l=l:=l9 ho h (.refl _)
theorem aD.app{l m:List α}(hl:aD lt l)(hm:aD lt m)(h:∀x∈l,∀y∈m,lt y x=false):aD lt (l++m):=List.pairwise_append.2 ⟨hl,hm,h⟩
theorem aD.left{l m:List α}(h:aD lt (l++m)):aD lt l:=(List.pairwise_append.1 h).1
theorem aD.right{l m:List α}(h:aD lt (l++m)):aD lt m:=(List.pairwise_append.1 h).2.1
theorem aD.z6{l m:List α}(h:aD lt (l++m)):∀x∈l,∀y∈m,lt y x=false:=(List.pairwise_append.1 h).2.2
theorem insert_eq(ho:Ord lt){A B l:List α}{x:α}(hS:A++B=bN lt l)(hB:∀y∈B,lt x y=true)(hA:∀y∈A,lt x y=false):A++x::B=bN lt (l++[x]):=by
 refine(l9 ho ?_ ?_).symm
 ·have hs:=cQ ho l
  rw[←hS]at hs
  refine aD.app hs.left (List.pairwise_cons.2 ⟨fun y hy=>ho.wx _ _ (hB y hy),hs.right⟩) ?_
  intro y hy z hz
  rcases List.mem_cons.1 hz with rfl|hz
  ·exact hA y hy
  ·exact hs.z6 y hy z hz
 ·have h1:cz lt (x::B) (B++[x]):=(cz.swap ho (u:=B) (v:=[x]) (by simpa using hB)).symm
  have h2:cz lt (A++x::B) ((A++B)++[x]):=by rw[List.append_assoc];exact cz.app (.refl A) h1
  refine h2.trans (cz.app ?_ (.refl _))
  rw[hS]
  exact eG ho l
theorem GN(ho:Ord lt){A U V B:List α}(h1:aD lt (A++U))(h2:aD lt (V++B))(h3:∀u∈U,∀v∈V,lt v u=true)(h4:∀x∈A,∀y∈B,lt y x=false):
  bN lt (A++V)++bN lt (U++B)=bN lt ((A++U)++(V++B)):=by
 refine(l9 ho ?_ ?_).symm
 ·refine aD.app (cQ ho _) (cQ ho _) fun x hx y hy=>?_
  rw[mW ho,List.mem_append]at hx hy
  rcases hx with hx|hx<;>rcases hy with hy|hy
  ·exact h1.z6 x hx y hy
  ·exact h4 x hx y hy
  ·exact ho.wx _ _ (h3 y hy x hx)
  ·exact h2.z6 x hx y hy
 ·refine(cz.app (eG ho _) (eG ho _)).trans ?_
  have:=cz.app (cz.app (.refl A) (cz.swap ho h3).symm) (.refl B)
  simpa[List.append_assoc]using this
theorem aD.get(h:aD lt l){i j:Nat}(hi:i<j){x y:α}(hx:l[i]?=some x)(hy:l[j]?=some y):lt y x=false:=by
 obtain⟨h1,rfl⟩:=List.getElem?_eq_some_iff.1 hx
 obtain⟨h2,rfl⟩:=List.getElem?_eq_some_iff.1 hy
 exact List.pairwise_iff_getElem.1 h i j h1 h2 hi
theorem aD.lI(ho:Ord lt)(h:aD lt l){i j:Nat}(hi:i≤j){x y:α}(hx:l[i]?=some x)(hy:l[j]?=some y):lt y x=false:=by
 rcases Nat.lt_or_ge i j with h1|h1
 ·exact h.get h1 hx hy
 ·obtain rfl:i=j:=by omega
  rw[hx]at hy;cases hy
  exact ho.F4 _
theorem rq(ho:Ord lt){X Y:List α}(hX:aD lt X)(hY:aD lt Y){s e:Nat}(hs:s≤X.length)(he:e≤Y.length)
  (hu:s=X.length∨e=0∨∃x y,X[s]?=some x∧Y[e-1]?=some y∧lt y x=true) (hl:s=0∨e=Y.length∨∃x y,X[s-1]?=some x∧Y[e]?=some y∧lt y x=false):
  bN lt (X.take s++Y.take e)++bN lt (X.drop s++Y.drop e)=bN lt (X++Y):=by
 have key:=GN ho (A:=X.take s) (U:=X.drop s) (V:=Y.take e) (B:=Y.drop e) (by rw[List.take_append_drop];exact hX) (by rw[List.take_append_drop];exact hY) ?_ ?_
 ·rwa[List.take_append_drop,List.take_append_drop]at key
 ·intro u hu' v hv'
  obtain⟨i,hi⟩:=List.getElem?_of_mem hu'
  obtain⟨j,hj⟩:=List.getElem?_of_mem hv'
  rw[List.getElem?_drop]at hi
  have hj':=(List.getElem?_eq_some_iff.1 hj).1
  simp only[List.length_take]at hj'
  rw[List.getElem?_take,if_pos (by omega)]at hj
  have hi':=(List.getElem?_eq_some_iff.1 hi).1
  rcases hu with h|h|⟨x,y,hx,hy,h⟩
  ·omega
  ·omega
  ·have h5:=hX.lI ho (show s≤s+i by omega) hx hi
   have h6:=hY.lI ho (show j≤e-1 by omega) hj hy
   exact ho.F8 (ho.Iv h6 h) h5
 ·intro x hx' y hy'
  obtain⟨i,hi⟩:=List.getElem?_of_mem hx'
  obtain⟨j,hj⟩:=List.getElem?_of_mem hy'
  rw[List.getElem?_drop]at hj
  have hi':=(List.getElem?_eq_some_iff.1 hi).1
  simp only[List.length_take]at hi'
  rw[List.getElem?_take,if_pos (by omega)]at hi
  have hj':=(List.getElem?_eq_some_iff.1 hj).1
  rcases hl with h|h|⟨x0,y0,hx,hy,h⟩
  ·omega
  ·omega
  ·have h5:=hX.lI ho (show i≤s-1 by omega) hi hx
   have h6:=hY.lI ho (show e≤e+j by omega) hy hj
   exact ho.le_trans h5 (ho.le_trans h h6)
theorem Bd(ho:Ord lt){x:α}{Y:List α}(hY:aD lt Y){e:Nat}(he:e≤Y.length)(hu:e=0∨∃y,Y[e-1]?=some y∧lt y x=true)(hl:e=Y.length∨∃y,Y[e]?=some y∧lt y x=false):
  Y.take e++x::Y.drop e=bN lt (x::Y):=by
 have key:=rq ho (X:=[x]) (s:=0) (by simp[aD]) hY (by simp) he (by rcases hu with h|⟨y,h1,h2⟩;exact .inr (.inl h);exact .inr (.inr ⟨x,y,rfl,h1,h2⟩)) (.inl rfl)
 have h1:aD lt (Y.take e):=by have:=hY;rw[←List.take_append_drop e Y]at this;exact this.left
 have h2:aD lt (x::Y.drop e):=by
  have h3:aD lt (Y.drop e):=by have:=hY;rw[←List.take_append_drop e Y]at this;exact this.right
  refine List.pairwise_cons.2 ⟨fun y hy=>?_,h3⟩
  obtain⟨j,hj⟩:=List.getElem?_of_mem hy
  rw[List.getElem?_drop]at hj
  rcases hl with h|⟨y0,hy0,h⟩
  ·have:=(List.getElem?_eq_some_iff.1 hj).1;omega
  ·exact ho.le_trans h (hY.lI ho (Nat.le_add_right _ _) hy0 hj)
 simp only[List.take_zero,List.nil_append,List.drop_zero,List.singleton_append]at key
 rw[eC ho h1,eC ho h2]at key
 exact key
theorem xZ(ho:Ord lt){x:α}{X:List α}(hX:aD lt X){s:Nat}(hs:s≤X.length)(hu:s=X.length∨∃y,X[s]?=some y∧lt x y=true)(hl:s=0∨∃y,X[s-1]?=some y∧lt x y=false):
  X.take s++x::X.drop s=bN lt (X++[x]):=by
 refine insert_eq ho (by rw[List.take_append_drop,eC ho hX]) (fun y hy=>?_) fun y hy=>?_
 ·obtain⟨j,hj⟩:=List.getElem?_of_mem hy
  rw[List.getElem?_drop]at hj
  rcases hu with h|⟨y0,h1,h2⟩
  ·have:=(List.getElem?_eq_some_iff.1 hj).1;omega
  ·exact ho.F8 h2 (hX.lI ho (Nat.le_add_right _ _) h1 hj)
 ·obtain⟨j,hj⟩:=List.getElem?_of_mem hy
  have hj':=(List.getElem?_eq_some_iff.1 hj).1
  simp only[List.length_take]at hj'
  rw[List.getElem?_take,if_pos (by omega)]at hj
  rcases hl with h|⟨y0,h1,h2⟩
  ·omega
  ·exact ho.le_trans (hX.lI ho (show j≤s-1 by omega) hj h1) h2
def DE(lt:α→α→Bool)(s:Nat)(l:List α):Prop:=∀k,aD lt ((l.drop (k* s)).take s)
theorem DE.all{s:Nat}{l:List α}(h:DE lt s l)(hs:l.length≤s):aD lt l:=by
 have:=h 0
 rwa[Nat.zero_mul,List.drop_zero,List.take_of_length_le hs]at this
end St
end Go.Proofs.YtmbagpfmfiegkaaGreat

/- Contracts of functions and lemmas for planAll_holds, part 6. -/
import Derived.Test.YtggohfhfocgilaaGreatM05
set_option maxHeartbeats 8000000
set_option maxRecDepth 100000
set_option linter.all false
namespace Go.Proofs.YtggohfhfocgilaaGreat
open Go.Proofs.YtggohfhfocgilaaGreatAw Go.RowKit
def iu(r:List al)(c:Int):al:=if c<0 then⟨0,0,jE⟩else r.getD c.toNat ⟨0,0,jE⟩
theorem y3(r:List al)(c:Int)(nn:Bool)(H:aa):ag Tryz.prog 155 [.d (.list nn (r.map al.enc)),iA c] H (.ok (iu r c).av) H:=by
 refine ag.cA (hint:=fun _=>false) Tryz.func155 (by kernel_rfl) rfl [.cell 4 100] (by kernel_rfl) (by simp[Tryz.ntmps155]) ?_
 rw[Tryz.ntmps155]
 by_cases h1:c<0
 ·simp -implicitDefEqProofs only[↓reduceIte,go_sem,aq,Nat.reduceAdd,Nat.reduceLT,Nat.reduceEqDiff,h1]
  refine cV.ret ?_
  simp -implicitDefEqProofs only[↓reduceIte,go_sem,ab,Nat.reduceAdd,Nat.reduceLT,Nat.reduceLeDiff,Nat.reduceEqDiff,bH,cX]
  simp[iu,h1,jE]
 ·obtain⟨n,rfl⟩:=Int.eq_ofNat_of_zero_le (show 0≤c by omega)
  by_cases h2:n<r.length
  ·have h2':((r.length:Int)≤(n:Int))=False:=eq_false (by omega)
   have h3:((n:Int)<0)=False:=eq_false (by omega)
   have hx:=List.getElem?_eq_getElem h2
   have ha:iu r (n:Int)=r[n]:=by simp[iu,List.getD,hx];intro h;omega
   rw[ha]
   generalize r[n]=v at hx
   simp -implicitDefEqProofs only[↓reduceIte,go_sem,aq,Nat.reduceAdd,Nat.reduceLT,Nat.reduceEqDiff,reduceCtorEq,h3,h2',List.length_map,hx,al.enc]
   refine cV.ret ?_
   simp -implicitDefEqProofs only[↓reduceIte,go_sem,ab,Nat.reduceAdd,Nat.reduceLT,Nat.reduceLeDiff,Nat.reduceEqDiff,bH,cX]
  ·have h2':((r.length:Int)≤(n:Int))=True:=eq_true (by omega)
   have h3:((n:Int)<0)=False:=eq_false (by omega)
   simp -implicitDefEqProofs only[↓reduceIte,go_sem,aq,Nat.reduceAdd,Nat.reduceLT,Nat.reduceEqDiff,reduceCtorEq,h3,h2',List.length_map]
   refine cV.ret ?_
   simp -implicitDefEqProofs only[↓reduceIte,go_sem,ab,Nat.reduceAdd,Nat.reduceLT,Nat.reduceLeDiff,Nat.reduceEqDiff,bH,cX]
   have:r[n]?=none:=List.getElem?_eq_none (by omega)
   simp[iu,this,jE]
theorem mG{α:Type}(l:List α)(n:Nat)(h:l.length=n):l.take n=l:=List.take_of_length_le (by omega)
end Go.Proofs.YtggohfhfocgilaaGreat
namespace Go.Proofs.YtggohfhfocgilaaGreat
namespace St
variable {α:Type}
structure Ord (lt:α→α→Bool):Prop where
 asym:∀x y,lt x y=true→lt y x=false
 ntrans:∀x y z,lt x z=true→lt x y=true∨lt y z=true
variable {lt:α→α→Bool} {l:List α}
theorem Ord.Jd(h:Ord lt)(x:α):lt x x=false:=by
 cases e:lt x x with
 |false=>rfl
 |true=>rw[h.asym x x e]at e;cases e
theorem Ord.trans(h:Ord lt){x y z:α}(h1:lt x y=true)(h2:lt y z=true):lt x z=true:=by
 rcases h.ntrans x z y h1 with h3|h3
 ·exact h3
 ·rw[h.asym y z h2]at h3;cases h3
theorem Ord.le_trans(h:Ord lt){x y z:α}(h1:lt y x=false)(h2:lt z y=false):lt z x=false:=by
 cases e:lt z x with
 |false=>rfl
 |true=>
  rcases h.ntrans z y x e with h3|h3
  ·rw[h2]at h3;cases h3
  ·rw[h1]at h3;cases h3
theorem Ord.Fh(h:Ord lt){x y z:α}(h1:lt x y=true)(h2:lt z y=false):lt x z=true:=by
 rcases h.ntrans x z y h1 with h3|h3
 ·exact h3
 ·rw[h2]at h3;cases h3
theorem Ord.HT(h:Ord lt){x y z:α}(h1:lt y x=false)(h2:lt y z=true):lt x z=true:=by
 rcases h.ntrans y x z h2 with h3|h3
 ·rw[h1]at h3;cases h3
 ·exact h3
def aw(lt:α→α→Bool)(l:List α):Prop:=l.Pairwise fun x y=>lt y x=false
def eqv(lt:α→α→Bool)(x y:α):Bool:= !lt x y&& !lt y x
theorem oe{x y:α}:eqv lt x y=true↔lt x y=false∧lt y x=false:=by simp[eqv]
def bG(lt:α→α→Bool)(l m:List α):Prop:=∀x,l.filter (eqv lt x)=m.filter (eqv lt x)
theorem bG.refl(l:List α):bG lt l l:=fun _=>rfl
theorem bG.symm{l m:List α}(h:bG lt l m):bG lt m l:=fun x=>(h x).symm
theorem bG.trans{l m n:List α}(h:bG lt l m)(g:bG lt m n):bG lt l n:=fun x=>(h x).trans (g x)
theorem bG.app{l l' m m':List α}(h:bG lt l l')(g:bG lt m m'):bG lt (l++m) (l'++m'):=fun x=>by rw[List.filter_append,List.filter_append,h x,g x]
theorem tX(ho:Ord lt)(x:α):eqv lt x x=true:=oe.2 ⟨ho.Jd x,ho.Jd x⟩
theorem bG.mem(ho:Ord lt){l m:List α}(h:bG lt l m){x:α}(hx:x∈l):x∈m:=by
 have:x∈l.filter (eqv lt x):=List.mem_filter.2 ⟨hx,tX ho x⟩
 rw[h x]at this
 exact(List.mem_filter.1 this).1
theorem bG.mem_iff(ho:Ord lt){l m:List α}(h:bG lt l m){x:α}:x∈l↔x∈m:=⟨h.mem ho,h.symm.mem ho⟩
theorem bG.swap(ho:Ord lt){u v:List α}(h:∀x∈u,∀y∈v,lt y x=true):bG lt (u++v) (v++u):=by
 intro c
 rw[List.filter_append,List.filter_append]
 by_cases hu:∃x∈u,eqv lt c x=true
 ·obtain⟨x,hx,hc⟩:=hu
  have:v.filter (eqv lt c)=[]:=by
   rw[List.filter_eq_nil_iff]
   intro y hy hcy
   have h1:=oe.1 hc
   have h2:=oe.1 hcy
   have h3:=h x hx y hy
   rcases ho.ntrans y c x h3 with h4|h4
   ·rw[h2.2]at h4;cases h4
   ·rw[h1.1]at h4;cases h4
  rw[this];simp
 ·have:u.filter (eqv lt c)=[]:=by
   rw[List.filter_eq_nil_iff]
   intro x hx hc
   exact hu ⟨x,hx,hc⟩
  rw[this];simp
theorem uniq(ho:Ord lt):∀{l m:List α},aw lt l→aw lt m→bG lt l m→l=m
 |[],[],_,_,_=>rfl
 |[],b::t,_,_,h=>by have:=h.symm.mem ho (List.mem_cons_self (a:=b) (l:=t));simp at this
 |a::t,[],_,_,h=>by have:=h.mem ho (List.mem_cons_self (a:=a) (l:=t));simp at this
 |a::t,b::t',hl,hm,h=>by
  have ha:a∈b::t':=h.mem ho (List.mem_cons_self ..)
  have hb:b∈a::t:=h.symm.mem ho (List.mem_cons_self ..)
  have h1:lt a b=false:=by
   rcases List.mem_cons.1 ha with rfl|ha
   ·exact ho.Jd _
   ·exact(List.pairwise_cons.1 hm).1 a ha
  have h2:lt b a=false:=by
   rcases List.mem_cons.1 hb with rfl|hb
   ·exact ho.Jd _
   ·exact(List.pairwise_cons.1 hl).1 b hb
  have e1:eqv lt a a=true:=tX ho a
  have e2:eqv lt a b=true:=oe.2 ⟨h1,h2⟩
  have h3:=h a
  rw[List.filter_cons_of_pos e1,List.filter_cons_of_pos e2]at h3
  obtain rfl:a=b:=(List.cons.inj h3).1
  have:t=t':=uniq ho (List.pairwise_cons.1 hl).2 (List.pairwise_cons.1 hm).2 fun x=>by
   have h4:=h x
   by_cases hx:eqv lt x a=true
   ·rw[List.filter_cons_of_pos hx,List.filter_cons_of_pos hx]at h4
    exact(List.cons.inj h4).2
   ·rw[List.filter_cons_of_neg hx,List.filter_cons_of_neg hx]at h4
    exact h4
  rw[this]
def ins(lt:α→α→Bool)(x:α):List α→List α
 |[]=>[x]
 |y::t=>if lt y x then y::ins lt x t else x::y::t
def aJ(lt:α→α→Bool)(l:List α):List α:=l.foldr (ins lt) []
theorem zE{x z:α}:∀{l:List α},z∈ins lt x l↔z=x∨z∈l
 |[]=>by simp[ins]
 |y::t=>by
  unfold ins
  split
  ·rw[List.mem_cons,zE,List.mem_cons]
   constructor
   ·rintro(h|h|h)
    ·exact .inr (.inl h)
    ·exact .inl h
    ·exact .inr (.inr h)
   ·rintro(h|h|h)
    ·exact .inr (.inl h)
    ·exact .inl h
    ·exact .inr (.inr h)
  ·simp
theorem oJ(ho:Ord lt)(x:α):∀{l:List α},aw lt l→aw lt (ins lt x l)
 |[],_=>by simp[ins,aw]
 |y::t,h=>by
  have h':=List.pairwise_cons.1 h
  unfold ins
  split
  ·rename_i hy
   refine List.pairwise_cons.2 ⟨fun z hz=>?_,oJ ho x h'.2⟩
   rcases zE.1 hz with rfl|hz
   ·exact ho.asym _ _ hy
   ·exact h'.1 z hz
  ·rename_i hy
   have hy:lt y x=false:=by simpa using hy
   refine List.pairwise_cons.2 ⟨fun z hz=>?_,h⟩
   rcases List.mem_cons.1 hz with rfl|hz
   ·exact hy
   ·exact ho.le_trans hy (h'.1 z hz)
theorem uj(ho:Ord lt)(x:α):∀l:List α,bG lt (ins lt x l) (x::l)
 |[]=> .refl _
 |y::t=>by
  unfold ins
  split
  ·rename_i hy
   have h1:bG lt ([y]++ins lt x t) ([y]++(x::t)):=bG.app (.refl _) (uj ho x t)
   refine h1.trans ?_
   have h2:bG lt ([y]++[x]) ([x]++[y]):=(bG.swap ho (u:=[x]) (v:=[y]) (by simpa using hy)).symm
   have:=bG.app h2 (.refl t)
   simpa using this
  ·exact .refl _
theorem cz(ho:Ord lt):∀l:List α,aw lt (aJ lt l)
 |[]=>List.Pairwise.nil
 |x::l=>oJ ho x (cz ho l)
theorem dY(ho:Ord lt):∀l:List α,bG lt (aJ lt l) l
 |[]=> .refl _
 |x::l=>(uj ho x _).trans (bG.app (l:=[x]) (.refl _) (dY ho l))
theorem zB(x:α):∀l:List α,(ins lt x l).length=l.length+1
 |[]=>rfl
 |y::t=>by unfold ins;split<;>simp[zB x t]
theorem aW:∀l:List α,(aJ lt l).length=l.length
 |[]=>rfl
 |x::l=>by
  show(ins lt x (aJ lt l)).length=_
  rw[zB,aW l];rfl
theorem fL(ho:Ord lt){l:List α}{x:α}:x∈aJ lt l↔x∈l:=(dY ho l).mem_iff ho
theorem j3(ho:Ord lt){l m:List α}(h1:aw lt m)(h2:bG lt m l):aJ lt l=m:=uniq ho (cz ho l) h1 ((dY ho l).trans h2.symm)
theorem cI(ho:Ord lt){l:List α}(h:aw lt l):aJ lt l=l:=j3 ho h (.refl _)
theorem aw.app{l m:List α}(hl:aw lt l)(hm:aw lt m)(h:∀x∈l,∀y∈m,lt y x=false):aw lt (l++m):=List.pairwise_append.2 ⟨hl,hm,h⟩
theorem aw.left{l m:List α}(h:aw lt (l++m)):aw lt l:=(List.pairwise_append.1 h).1
theorem aw.right{l m:List α}(h:aw lt (l++m)):aw lt m:=(List.pairwise_append.1 h).2.1
theorem aw.tP{l m:List α}(h:aw lt (l++m)):∀x∈l,∀y∈m,lt y x=false:=(List.pairwise_append.1 h).2.2
theorem insert_eq(ho:Ord lt){A B l:List α}{x:α}(hS:A++B=aJ lt l)(hB:∀y∈B,lt x y=true)(hA:∀y∈A,lt x y=false):A++x::B=aJ lt (l++[x]):=by
 refine(j3 ho ?_ ?_).symm
 ·have hs:=cz ho l
  rw[←hS]at hs
  refine aw.app hs.left (List.pairwise_cons.2 ⟨fun y hy=>ho.asym _ _ (hB y hy),hs.right⟩) ?_
  intro y hy z hz
  rcases List.mem_cons.1 hz with rfl|hz
  ·exact hA y hy
  ·exact hs.tP y hy z hz
 ·have h1:bG lt (x::B) (B++[x]):=(bG.swap ho (u:=B) (v:=[x]) (by simpa using hB)).symm
  have h2:bG lt (A++x::B) ((A++B)++[x]):=by rw[List.append_assoc];exact bG.app (.refl A) h1
  refine h2.trans (bG.app ?_ (.refl _))
  rw[hS]
  exact dY ho l
theorem Gi(ho:Ord lt){A U V B:List α}(h1:aw lt (A++U))(h2:aw lt (V++B))(h3:∀u∈U,∀v∈V,lt v u=true)(h4:∀x∈A,∀y∈B,lt y x=false):
  aJ lt (A++V)++aJ lt (U++B)=aJ lt ((A++U)++(V++B)):=by
 refine(j3 ho ?_ ?_).symm
 ·refine aw.app (cz ho _) (cz ho _) fun x hx y hy=>?_
  rw[fL ho,List.mem_append]at hx hy
  rcases hx with hx|hx<;>rcases hy with hy|hy
  ·exact h1.tP x hx y hy
  ·exact h4 x hx y hy
  ·exact ho.asym _ _ (h3 y hy x hx)
  ·exact h2.tP x hx y hy
 ·refine(bG.app (dY ho _) (dY ho _)).trans ?_
  have:=bG.app (bG.app (.refl A) (bG.swap ho h3).symm) (.refl B)
  simpa[List.append_assoc]using this
theorem aw.get(h:aw lt l){i j:Nat}(hi:i<j){x y:α}(hx:l[i]?=some x)(hy:l[j]?=some y):lt y x=false:=by
 obtain⟨h1,rfl⟩:=List.getElem?_eq_some_iff.1 hx
 obtain⟨h2,rfl⟩:=List.getElem?_eq_some_iff.1 hy
 exact List.pairwise_iff_getElem.1 h i j h1 h2 hi
theorem aw.lf(ho:Ord lt)(h:aw lt l){i j:Nat}(hi:i≤j){x y:α}(hx:l[i]?=some x)(hy:l[j]?=some y):lt y x=false:=by
 rcases Nat.lt_or_ge i j with h1|h1
 ·exact h.get h1 hx hy
 ·obtain rfl:i=j:=by omega
  rw[hx]at hy;cases hy
  exact ho.Jd _
theorem nc(ho:Ord lt){X Y:List α}(hX:aw lt X)(hY:aw lt Y){s e:Nat}(hs:s≤X.length)(he:e≤Y.length)
  (hu:s=X.length∨e=0∨∃x y,X[s]?=some x∧Y[e-1]?=some y∧lt y x=true) (hl:s=0∨e=Y.length∨∃x y,X[s-1]?=some x∧Y[e]?=some y∧lt y x=false):
  aJ lt (X.take s++Y.take e)++aJ lt (X.drop s++Y.drop e)=aJ lt (X++Y):=by
 have key:=Gi ho (A:=X.take s) (U:=X.drop s) (V:=Y.take e) (B:=Y.drop e) (by rw[List.take_append_drop];exact hX) (by rw[List.take_append_drop];exact hY) ?_ ?_
 ·rwa[List.take_append_drop,List.take_append_drop]at key
 ·intro u hu' v hv'
  obtain⟨i,hi⟩:=List.getElem?_of_mem hu'
  obtain⟨j,hj⟩:=List.getElem?_of_mem hv'
  rw[List.getElem?_drop]at hi
  have hj':=(List.getElem?_eq_some_iff.1 hj).1
  simp only[List.length_take]at hj'
  rw[List.getElem?_take,if_pos (by omega)]at hj
  have hi':=(List.getElem?_eq_some_iff.1 hi).1
  rcases hu with h|h|⟨x,y,hx,hy,h⟩
  ·omega
  ·omega
  ·have h5:=hX.lf ho (show s≤s+i by omega) hx hi
   have h6:=hY.lf ho (show j≤e-1 by omega) hj hy
   exact ho.Fh (ho.HT h6 h) h5
 ·intro x hx' y hy'
  obtain⟨i,hi⟩:=List.getElem?_of_mem hx'
  obtain⟨j,hj⟩:=List.getElem?_of_mem hy'
  rw[List.getElem?_drop]at hj
  have hi':=(List.getElem?_eq_some_iff.1 hi).1
  simp only[List.length_take]at hi'
  rw[List.getElem?_take,if_pos (by omega)]at hi
  have hj':=(List.getElem?_eq_some_iff.1 hj).1
  rcases hl with h|h|⟨x0,y0,hx,hy,h⟩
  ·omega
  ·omega
  ·have h5:=hX.lf ho (show i≤s-1 by omega) hi hx
   have h6:=hY.lf ho (show e≤e+j by omega) hy hj
   exact ho.le_trans h5 (ho.le_trans h h6)
theorem q8(ho:Ord lt){x:α}{Y:List α}(hY:aw lt Y){e:Nat}(he:e≤Y.length)(hu:e=0∨∃y,Y[e-1]?=some y∧lt y x=true)(hl:e=Y.length∨∃y,Y[e]?=some y∧lt y x=false):
  Y.take e++x::Y.drop e=aJ lt (x::Y):=by
 have key:=nc ho (X:=[x]) (s:=0) (by simp[aw]) hY (by simp) he (by rcases hu with h|⟨y,h1,h2⟩;exact .inr (.inl h);exact .inr (.inr ⟨x,y,rfl,h1,h2⟩)) (.inl rfl)
 have h1:aw lt (Y.take e):=by have:=hY;rw[←List.take_append_drop e Y]at this;exact this.left
 have h2:aw lt (x::Y.drop e):=by
  have h3:aw lt (Y.drop e):=by have:=hY;rw[←List.take_append_drop e Y]at this;exact this.right
  refine List.pairwise_cons.2 ⟨fun y hy=>?_,h3⟩
  obtain⟨j,hj⟩:=List.getElem?_of_mem hy
  rw[List.getElem?_drop]at hj
  rcases hl with h|⟨y0,hy0,h⟩
  ·have:=(List.getElem?_eq_some_iff.1 hj).1;omega
  ·exact ho.le_trans h (hY.lf ho (Nat.le_add_right _ _) hy0 hj)
 simp only[List.take_zero,List.nil_append,List.drop_zero,List.singleton_append]at key
 rw[cI ho h1,cI ho h2]at key
 exact key
theorem pw(ho:Ord lt){x:α}{X:List α}(hX:aw lt X){s:Nat}(hs:s≤X.length)(hu:s=X.length∨∃y,X[s]?=some y∧lt x y=true)(hl:s=0∨∃y,X[s-1]?=some y∧lt x y=false):
  X.take s++x::X.drop s=aJ lt (X++[x]):=by
 refine insert_eq ho (by rw[List.take_append_drop,cI ho hX]) (fun y hy=>?_) fun y hy=>?_
 ·obtain⟨j,hj⟩:=List.getElem?_of_mem hy
  rw[List.getElem?_drop]at hj
  rcases hu with h|⟨y0,h1,h2⟩
  ·have:=(List.getElem?_eq_some_iff.1 hj).1;omega
  ·exact ho.Fh h2 (hX.lf ho (Nat.le_add_right _ _) h1 hj)
 ·obtain⟨j,hj⟩:=List.getElem?_of_mem hy
  have hj':=(List.getElem?_eq_some_iff.1 hj).1
  simp only[List.length_take]at hj'
  rw[List.getElem?_take,if_pos (by omega)]at hj
  rcases hl with h|⟨y0,h1,h2⟩
  ·omega
  ·exact ho.le_trans (hX.lf ho (show j≤s-1 by omega) hj h1) h2
def Cl(lt:α→α→Bool)(s:Nat)(l:List α):Prop:=∀k,aw lt ((l.drop (k* s)).take s)
theorem Cl.all{s:Nat}{l:List α}(h:Cl lt s l)(hs:l.length≤s):aw lt l:=by
 have:=h 0
 rwa[Nat.zero_mul,List.drop_zero,List.take_of_length_le hs]at this
end St
end Go.Proofs.YtggohfhfocgilaaGreat
namespace Go.Proofs.YtggohfhfocgilaaGreat
open Go.Proofs.YtggohfhfocgilaaGreatAw Go.RowKit
namespace SR
def aH(H:aa)(id ver:Nat)(L:List (List al)):aa:=H.set id (.arr 136 1 ver (L.map de))
theorem cx{H:aa}{id:Nat}(h:id<H.length)(ver:Nat)(L:List (List al)):(aH H id ver L)[id]?=some (.arr 136 1 ver (L.map de)):=by simp[aH,h]
theorem eB(H:aa)(id ver:Nat)(L:List (List al))(v:Nat)(es:List (List D)):(aH H id ver L).set id (.arr 136 1 v es)=H.set id (.arr 136 1 v es):=by simp[aH]
theorem dT(H:aa)(id ver:Nat)(L:List (List al)):H.set id (.arr 136 1 ver (L.map de))=aH H id ver L:=rfl
theorem aG{L:List (List al)}{i:Nat}{x:(List al)}(h:L[i]?=some x):(L.map de)[i]?=some (de x):=by simp[h]
theorem cq(L:List (List al))(i:Nat)(x:(List al)):(L.map de).set i (de x)=(L.set i x).map de:=by simp[List.map_set]
theorem get_at{A B:List (List al)}{x:(List al)}{n:Nat}(h:A.length=n):(A++x::B)[n]?=some x:=by subst h;simp
theorem cy{A B:List (List al)}{x y:(List al)}{n:Nat}(h:A.length=n):(A++x::B).set n y=A++y::B:=by subst h;simp
def n7(P X M Y Q:List (List al))(k:Nat):List (List al):=P++Y.take k++(X.drop k++M++X.take k++(Y.drop k++Q))
theorem pC(P X M Y Q:List (List al)):n7 P X M Y Q 0=P++X++M++Y++Q:=by simp[n7]
theorem sd(P X M Y Q:List (List al))(n:Nat)(h1:X.length=n)(h2:Y.length=n):n7 P X M Y Q n=P++Y++M++X++Q:=by
 unfold n7
 rw[List.take_of_length_le (by omega),List.drop_of_length_le (by omega),List.take_of_length_le (by omega),List.drop_of_length_le (by omega)]
 simp
theorem py(P X M Y Q:List (List al))(k:Nat)(hk:k<X.length)(h:X.length=Y.length):∃x y,(n7 P X M Y Q k)[P.length+k]?=some x∧(n7 P X M Y Q k)[P.length+X.length+M.length+k]?=some y∧
  ((n7 P X M Y Q k).set (P.length+k) y).set (P.length+X.length+M.length+k) x=n7 P X M Y Q (k+1):=by
 have hk2:k<Y.length:=by omega
 have e1:X.drop k=X[k]::X.drop (k+1):=List.drop_eq_getElem_cons hk
 have e2:Y.drop k=Y[k]::Y.drop (k+1):=List.drop_eq_getElem_cons hk2
 have e3:X.take (k+1)=X.take k++[X[k]]:=List.take_succ_eq_append_getElem hk
 have e4:Y.take (k+1)=Y.take k++[Y[k]]:=List.take_succ_eq_append_getElem hk2
 have l1:(P++Y.take k).length=P.length+k:=by simp;omega
 have l2:(X.drop (k+1)).length=X.length-(k+1):=by simp
 have l3:(X.take k).length=k:=by simp;omega
 unfold n7
 rw[e1,e2,e3,e4]
 generalize X[k]=x
 generalize Y[k]=y
 generalize X.drop (k+1)=X1 at*
 generalize Y.drop (k+1)=Y1 at*
 generalize X.take k=X0 at*
 generalize Y.take k=Y0 at*
 have a1:P++Y0++(x::X1++M++X0++(y::Y1++Q))=(P++Y0)++x::(X1++M++X0++(y::Y1++Q)):=by simp
 have a2:P++Y0++(x::X1++M++X0++(y::Y1++Q))=(P++Y0++x::X1++M++X0)++y::(Y1++Q):=by simp
 have a3:(P++Y0)++y::(X1++M++X0++(y::Y1++Q))=(P++Y0++y::X1++M++X0)++y::(Y1++Q):=by simp
 refine⟨x,y,?_,?_,?_⟩
 ·rw[a1];exact get_at l1
 ·rw[a2]
  refine get_at ?_
  simp only[List.length_append,List.length_cons,l2,l3]at*
  omega
 ·rw[a1,cy l1,a3,cy (by simp only[List.length_append,List.length_cons,l2,l3]at*;omega)]
  simp
theorem fZ(H:aa)(id ver:Nat)(hid:id<H.length)(g:FuncId)(caps:List AV)(P X M Y Q:List (List al))(a b n m:Nat)(ha:P.length=a)(hn:X.length=n)(hy:Y.length=n)(hb:P.length+X.length+M.length=b)
  (hm:(P++X++M++Y++Q).length=m) (hbig:m≤1000000000000):
  ag Tryz.prog 248 [.sl id ver 0 m,iA a,iA b,iA n,.fn g caps] (aH H id ver (P++X++M++Y++Q)) (.ok (.a7 [])) (aH H id ver (P++Y++M++X++Q)):=by
 have hml:P.length+X.length+M.length+Y.length+Q.length=m:=by rw[←hm];simp;omega
 generalize hE:aH H id ver (P++Y++M++X++Q)=E
 generalize hE0:aH H id ver (P++X++M++Y++Q)=E0
 refine ag.ai (hint:=(fun _=>false)) Tryz.func248 (by kernel_rfl) rfl [] (by kernel_rfl) (by decide) (by simp[Tryz.ntmps248]) ?_
 rw[Tryz.ntmps248]
 simp -implicitDefEqProofs only[go_sem]
 refine aA (fun k s H'=>H'=aH H id ver (n7 P X M Y Q k)∧s 0= .sl id ver 0 m∧s 1=iA a∧s 2=iA b∧s 3=iA n∧s 10=iA k) n (by omega) (ak.refl _ _) ?_ ?_ ?_
 ·refine⟨by rw[pC,hE0],?_⟩
  simp -implicitDefEqProofs only[↓reduceIte,go_sem,Nat.reduceLT,Nat.reduceEqDiff,reduceCtorEq]
 ·rintro k s H' hk hw ⟨rfl,t0,t1,t2,t3,t10⟩
  obtain⟨x,y,hx,hy2,hst⟩:=py P X M Y Q k (by omega) (by omega)
  rw[hb]at hy2 hst
  rw[ha]at hx hst
  obtain⟨i,hi⟩:∃i,i=a+k:=⟨_,rfl⟩
  obtain⟨j,hj⟩:∃j,j=b+k:=⟨_,rfl⟩
  have w1:IntKind.i64.wrap ((a:Int)+(k:Int))=(i:Int):=by rw[wrap64_in _ (by omega) (by omega)];omega
  have w2:IntKind.i64.wrap ((b:Int)+(k:Int))=(j:Int):=by rw[wrap64_in _ (by omega) (by omega)];omega
  rw[←hi]at hx hst
  rw[←hj]at hy2 hst
  have hil:i<m:=by omega
  have hjl:j<m:=by omega
  generalize n7 P X M Y Q k=L at*
  generalize n7 P X M Y Q (k+1)=L' at*
  have gx:=aG hx
  have gy:=aG hy2
  have gh:=cx hid ver L
  have s1:=cq L i y
  have s2:=cq (L.set i y) j x
  rw[hst]at s2
  have gy2:((L.set i y).map de)[j]?=some (de y):=by
   refine aG ?_
   rw[List.getElem?_set]
   by_cases hij:i=j
   ·omega
   ·rw[if_neg hij];exact hy2
  simp only[de]at gx gy gy2 s1 s2
  simp -implicitDefEqProofs only[↓reduceIte,go_sem,Nat.reduceLT,Nat.reduceEqDiff,t3,t10,hk]
  refine ee [false,false,false,false,false,false,false,false,false,false,false,false,false,false,false,false,false,false,false,false,true,true,true,true] 20 K.mixed (by kernel_rfl) (by kernel_rfl) (by kernel_rfl) ?_
  simp -implicitDefEqProofs only[↓reduceIte,go_sem,ab,aq,Nat.reduceLT,Nat.reduceEqDiff,reduceCtorEq,t0,t1,t2,t10,w1,w2,hil,hjl,gh,gx,gy,eB,s1,s2,gy2,hid,List.getElem?_set_self,List.set_set]
  refine cl.same ⟨by rw[←dT],?_⟩
  simp -implicitDefEqProofs only[↓reduceIte,go_sem,Nat.reduceLT,Nat.reduceEqDiff,reduceCtorEq,t0,t1,t2,t3,hw]
 ·rintro s H' ⟨rfl,t0,t1,t2,t3,t10⟩
  simp -implicitDefEqProofs only[↓reduceIte,go_sem,Nat.reduceLT,Nat.reduceEqDiff,t3,t10]
  rw[sd _ _ _ _ _ n hn hy,hE]
  exact⟨_,ak.refl _ _,rfl⟩
theorem dg(H:aa)(id ver:Nat)(hid:id<H.length)(g:FuncId)(caps:List AV)(P X M Y Q L L':List (List al))(a b n m:Nat)(hL:L=P++X++M++Y++Q)(hL':L'=P++Y++M++X++Q)(ha:P.length=a)(hn:X.length=n)(hy:Y.length=n)(hb:P.length+X.length+M.length=b)
  (hm:L.length=m) (hbig:m≤1000000000000):
  ag Tryz.prog 248 [.sl id ver 0 m,iA a,iA b,iA n,.fn g caps] (aH H id ver L) (.ok (.a7 [])) (aH H id ver L'):=by
 subst hL hL'
 exact fZ H id ver hid g caps P X M Y Q a b n m ha hn hy hb hm hbig
end SR
end Go.Proofs.YtggohfhfocgilaaGreat
namespace Go.Proofs.YtggohfhfocgilaaGreat
open Go.Proofs.YtggohfhfocgilaaGreatAw Go.RowKit
namespace SR
structure F5 where
 L:List (List al)
 P:List (List al)
 U:List (List al)
 V:List (List al)
 Q:List (List al)
theorem j8(H:aa)(id ver:Nat)(hid:id<H.length)(g:FuncId)(caps:List AV)(P U V Q L T:List (List al))(hL:L=P++U++V++Q)(hT:T=P++V++U++Q)(a m b n:Nat)(ha:P.length=a)(hm:P.length+U.length=m)(hb:P.length+U.length+V.length=b)(hU:0<U.length)(hV:0<V.length)
  (hn:L.length=n) (hbig:n≤1000000000000):
  ag Tryz.prog 221 [.sl id ver 0 n,iA a,iA m,iA b,.fn g caps] (aH H id ver L) (.ok (.a7 [])) (aH H id ver T):=by
 have hnl:P.length+U.length+V.length+Q.length=n:=by rw[←hn,hL];simp;omega
 generalize hE0:aH H id ver L=E0
 have w1:IntKind.i64.wrap ((m:Int)-(a:Int))=((U.length:Nat):Int):=by rw[wrap64_in _ (by omega) (by omega)];omega
 have w2:IntKind.i64.wrap ((b:Int)-(m:Int))=((V.length:Nat):Int):=by rw[wrap64_in _ (by omega) (by omega)];omega
 refine ag.ai (hint:=(fun _=>false)) Tryz.func221 (by kernel_rfl) rfl [] (by kernel_rfl) (by decide) (by simp[Tryz.ntmps221]) ?_
 rw[Tryz.ntmps221]
 simp -implicitDefEqProofs only[↓reduceIte,go_sem,Nat.reduceLT,Nat.reduceEqDiff,w1,w2]
 refine bu _ _ _ _ (fun(x:F5) s H'=>H'=aH H id ver x.L∧x.L=x.P++x.U++x.V++x.Q∧T=x.P++x.V++x.U++x.Q∧x.P.length+x.U.length=m∧0<x.U.length∧0<x.V.length∧x.L.length=n∧
   s 0= .sl id ver 0 n∧s 2=iA m∧s 4= .fn g caps∧s 10=iA x.U.length∧s 11=iA x.V.length) (fun x=>x.U.length+x.V.length) ⟨L,P,U,V,Q⟩ (ak.refl _ _) ?_ ?_
 ·refine⟨hE0.symm,hL,hT,hm,hU,hV,hn,?_⟩
  simp -implicitDefEqProofs only[↓reduceIte,go_sem,Nat.reduceLT,Nat.reduceEqDiff,reduceCtorEq]
 ·rintro⟨L',P',U',V',Q'⟩ s H' ⟨rfl,hL',hT',hm',hU',hV',hn',t0,t2,t4,t10,t11⟩
  simp only at hL' hT' hm' hU' hV' hn' t0 t2 t4 t10 t11
  have hnl':P'.length+U'.length+V'.length+Q'.length=n:=by rw[←hn',hL'];simp;omega
  have w3:IntKind.i64.wrap ((m:Int)-(U'.length:Int))=((P'.length:Nat):Int):=by rw[wrap64_in _ (by omega) (by omega)];omega
  by_cases hij:U'.length=V'.length
  ·have hij':(((U'.length:Nat):Int) !=((V'.length:Nat):Int))=false:=by simp[hij]
   simp -implicitDefEqProofs only[↓reduceIte,go_sem,Nat.reduceLT,Nat.reduceEqDiff,reduceCtorEq,t10,t11,hij']
   simp -implicitDefEqProofs only[↓reduceIte,go_sem,Nat.reduceLT,Nat.reduceEqDiff,t0,t2,t4,t10,w3]
   refine ae.ok (dg H id ver hid g caps P' U' [] V' Q' L' T P'.length m U'.length n (by rw[hL'];simp) (by rw[hT'];simp) rfl rfl (by omega) (by simp;omega) hn' hbig) ?_
   simp -implicitDefEqProofs only[go_sem]
   exact⟨_,ak.refl _ _,rfl⟩
  ·have hij':(((U'.length:Nat):Int) !=((V'.length:Nat):Int))=true:=by simp;omega
   by_cases hgt:V'.length<U'.length
   ·have hgt':(((V'.length:Nat):Int)<((U'.length:Nat):Int))=True:=eq_true (by omega)
    have e1:U'.take V'.length++U'.drop V'.length=U':=List.take_append_drop _ _
    have l1:(U'.take V'.length).length=V'.length:=by simp;omega
    have l2:(U'.drop V'.length).length=U'.length-V'.length:=by simp
    generalize U'.take V'.length=X at*
    generalize U'.drop V'.length=Y at*
    have e2:=congrArg List.length e1
    simp only[List.length_append]at e2
    have w4:IntKind.i64.wrap (U'.length-(V'.length:Int))=((Y.length:Nat):Int):=by rw[wrap64_in _ (by omega) (by omega)];omega
    obtain⟨L2,hL2⟩:∃L2,L2=P'++V'++Y++X++Q':=⟨_,rfl⟩
    have hl2:L2.length=n:=by rw[hL2];simp only[List.length_append]at*;omega
    simp -implicitDefEqProofs only[↓reduceIte,go_sem,Nat.reduceLT,Nat.reduceEqDiff,reduceCtorEq,t10,t11,hij',hgt']
    simp -implicitDefEqProofs only[↓reduceIte,go_sem,Nat.reduceLT,Nat.reduceEqDiff,t0,t2,t4,t11,w3]
    refine ae.ok (dg H id ver hid g caps P' X Y V' Q' L' L2 P'.length m V'.length n (by rw[hL',←e1];simp) hL2 rfl l1 rfl (by omega) hn' hbig) ?_
    simp -implicitDefEqProofs only[↓reduceIte,go_sem,Nat.reduceLT,Nat.reduceEqDiff,t10,t11,w4]
    refine⟨_,_,⟨L2,P'++V',Y,X,Q'⟩,ak.refl _ _,⟨rfl,by rw[hL2];simp,by rw[hT',←e1];simp,?_,?_,?_,hl2,?_⟩,?_⟩
    ·simp only[List.length_append];omega
    ·simp only;omega
    ·simp only;omega
    ·simp -implicitDefEqProofs only[↓reduceIte,go_sem,Nat.reduceLT,Nat.reduceEqDiff,reduceCtorEq,t0,t2,t4,t11,l1]
    ·simp only;omega
   ·have hgt':(((V'.length:Nat):Int)<((U'.length:Nat):Int))=False:=eq_false (by omega)
    have e1:V'.take (V'.length-U'.length)++V'.drop (V'.length-U'.length)=V':=List.take_append_drop _ _
    have l1:(V'.take (V'.length-U'.length)).length=V'.length-U'.length:=by simp
    have l2:(V'.drop (V'.length-U'.length)).length=U'.length:=by simp;omega
    generalize V'.take (V'.length-U'.length)=Y at*
    generalize V'.drop (V'.length-U'.length)=Z at*
    have e2:=congrArg List.length e1
    simp only[List.length_append]at e2
    have w4:IntKind.i64.wrap (V'.length-(U'.length:Int))=((Y.length:Nat):Int):=by rw[wrap64_in _ (by omega) (by omega)];omega
    have w5:IntKind.i64.wrap ((m:Int)+(V'.length:Int))=(m:Int)+(V'.length:Int):=by rw[wrap64_in _ (by omega) (by omega)]
    have w6:IntKind.i64.wrap ((m:Int)+(V'.length:Int)-(U'.length:Int))=((m+Y.length:Nat):Int):=by rw[wrap64_in _ (by omega) (by omega)];omega
    obtain⟨L2,hL2⟩:∃L2,L2=P'++Z++Y++U'++Q':=⟨_,rfl⟩
    have hl2':L2.length=n:=by rw[hL2];simp only[List.length_append]at*;omega
    simp -implicitDefEqProofs only[↓reduceIte,go_sem,Nat.reduceLT,Nat.reduceEqDiff,reduceCtorEq,t10,t11,hij',hgt']
    simp -implicitDefEqProofs only[↓reduceIte,go_sem,Nat.reduceLT,Nat.reduceEqDiff,t0,t2,t4,t10,t11,w3,w5,w6]
    refine ae.ok (dg H id ver hid g caps P' U' Y Z Q' L' L2 P'.length (m+Y.length) U'.length n (by rw[hL',←e1];simp) hL2 rfl rfl l2 (by omega) hn' hbig) ?_
    simp -implicitDefEqProofs only[↓reduceIte,go_sem,Nat.reduceLT,Nat.reduceEqDiff,t10,t11,w4]
    refine⟨_,_,⟨L2,P',Z,Y,U'++Q'⟩,ak.refl _ _,⟨rfl,by rw[hL2];simp,by rw[hT',←e1];simp,?_,?_,?_,hl2',?_⟩,?_⟩
    ·simp only;omega
    ·simp only;omega
    ·simp only;omega
    ·simp -implicitDefEqProofs only[↓reduceIte,go_sem,Nat.reduceLT,Nat.reduceEqDiff,reduceCtorEq,t0,t2,t4,t10,l2]
    ·simp only;omega
end SR
end Go.Proofs.YtggohfhfocgilaaGreat
namespace Go.Proofs.YtggohfhfocgilaaGreat
open Go.Proofs.YtggohfhfocgilaaGreatAw Go.RowKit
namespace SR
def aV(c:(List al)→(List al)→Int)(x y:(List al)):Bool:=decide (c x y<0)
def ek(g:FuncId)(caps:List AV)(c:(List al)→(List al)→Int)(H:aa)(id:Nat):Prop:=∀(o:ay) (x y:(List al)),ag Tryz.prog g ([.d (.list false (x.map al.enc)),.d (.list false (y.map al.enc))]++caps) (H.set id o) (.ok (iA (c x y))) (H.set id o)
theorem ek.at{g:FuncId}{caps:List AV}{c:(List al)→(List al)→Int}{H:aa}{id:Nat}(h:ek g caps c H id)(ver:Nat)(L:List (List al))(x y:(List al)):ag Tryz.prog g ([.d (.list false (x.map al.enc)),.d (.list false (y.map al.enc))]++caps) (aH H id ver L) (.ok (iA (c x y))) (aH H id ver L):=h _ x y
structure Gh where
 L:List (List al)
 A:List (List al)
 B:List (List al)
theorem eu(H:aa)(id ver:Nat)(hid:id<H.length)(g:FuncId)(caps:List AV)(c:(List al)→(List al)→Int)(ho:St.Ord (aV c))(hc:ek g caps c H id)(P X Q L L':List (List al))(hL:L=P++X++Q)(hL':L'=P++St.aJ (aV c) X++Q)(a b n:Nat)(ha:P.length=a)(hb:P.length+X.length=b)
  (hn:L.length=n) (hbig:n≤1000000000000):
  ag Tryz.prog 183 [.sl id ver 0 n,iA a,iA b,.fn g caps] (aH H id ver L) (.ok (.a7 [])) (aH H id ver L'):=by
 have hnl:P.length+X.length+Q.length=n:=by rw[←hn,hL];simp;omega
 generalize hE0:aH H id ver L=E0
 have w1:IntKind.i64.wrap ((a:Int)+1)=(a:Int)+1:=wrap64_in _ (by omega) (by omega)
 refine ag.ai (hint:=(fun _=>false)) Tryz.func183 (by kernel_rfl) rfl [] (by kernel_rfl) (by decide) (by simp[Tryz.ntmps183]) ?_
 rw[Tryz.ntmps183]
 simp -implicitDefEqProofs only[↓reduceIte,go_sem,Nat.reduceLT,w1]
 refine aA (fun k s H'=>(∃Lk,H'=aH H id ver Lk∧Lk=P++(St.aJ (aV c) (X.take (k+1))++(X.drop (k+1)++Q)))∧s 0= .sl id ver 0 n∧s 1=iA a∧s 2=iA b∧s 3= .fn g caps∧s 8=iA ((a:Int)+1+(k:Int))) (X.length-1) (by omega) (ak.refl _ _) ?_ ?_ ?_
 ·refine⟨⟨L,hE0.symm,?_⟩,?_⟩
  ·have:St.aJ (aV c) (X.take 1)=X.take 1:=by cases X<;>rfl
   rw[hL,this,←List.append_assoc (X.take 1),List.take_append_drop,List.append_assoc]
  ·simp -implicitDefEqProofs only[↓reduceIte,go_sem,Nat.reduceLT,Nat.reduceEqDiff,reduceCtorEq,Int.add_zero]
 ·rintro k s H' hk hw ⟨⟨Lk,rfl,hLk⟩,t0,t1,t2,t3,t8⟩
  have hkx:k+1<X.length:=by omega
  have e1:X.drop (k+1)=X[k+1]::X.drop (k+1+1):=List.drop_eq_getElem_cons hkx
  have e2:X.take (k+1+1)=X.take (k+1)++[X[k+1]]:=List.take_succ_eq_append_getElem hkx
  have hSl:=St.aW (lt:=aV c) (X.take (k+1))
  have hXl:(X.take (k+1)).length=k+1:=by simp;omega
  have hRl:(X.drop (k+1+1)).length=X.length-(k+2):=by simp
  rw[e1]at hLk
  rw[e2]
  have hlt:((a:Int)+1+(k:Int)<(b:Int))=True:=eq_true (by omega)
  have hss:=St.cz ho (X.take (k+1))
  generalize X[k+1]=x at*
  generalize X.drop (k+1+1)=R0 at*
  generalize X.take (k+1)=X0 at*
  generalize hS:St.aJ (aV c) X0=S at*
  simp -implicitDefEqProofs only[↓reduceIte,go_sem,Nat.reduceLT,Nat.reduceEqDiff,t2,t8,hlt]
  refine bu _ _ _ _ (fun(z:Gh) s H'=>H'=aH H id ver z.L∧z.L=P++z.A++x::(z.B++(R0++Q))∧z.A++z.B=S∧(∀y∈z.B,aV c x y=true)∧s 0= .sl id ver 0 n∧s 1=iA a∧s 2=iA b∧s 3= .fn g caps∧s 8=iA ((a:Int)+1+(k:Int))∧s 9=iA ((a+z.A.length:Nat):Int)) (fun z=>z.A.length) ⟨Lk,S,[]⟩ (ak.refl _ _) ?_ ?_
  ·refine⟨rfl,by rw[hLk];simp,by simp,by simp,?_⟩
   simp -implicitDefEqProofs only[↓reduceIte,go_sem,Nat.reduceLT,Nat.reduceEqDiff,reduceCtorEq,t0,t1,t2,t3,t8,show((a:Int)+1+(k:Int))=((a+S.length:Nat):Int) by omega]
  ·rintro⟨L1,A,B⟩ s H' ⟨rfl,hL1,hAB,hB,t0,t1,t2,t3,t8,t9⟩
   simp only at hL1 hAB hB t0 t1 t2 t3 t8 t9
   have hABl:A.length+B.length=k+1:=by rw[←List.length_append,hAB,hSl,hXl]
   have hL1n:L1.length=n:=by rw[hL1];simp;omega
   have fin:(∀y∈A,aV c x y=false)→L1=P++(St.aJ (aV c) (X0++[x])++(R0++Q)):=fun hA=>by
    rw[hL1,←St.insert_eq ho (hAB.trans hS.symm) hB hA];simp
   obtain⟨j,hj⟩:∃j,j=a+A.length:=⟨_,rfl⟩
   rw[←hj]at t9
   have hw8:IntKind.i64.wrap ((a:Int)+1+(k:Int)+1)=(a:Int)+1+((k:Int)+1):=by rw[wrap64_in _ (by omega) (by omega)];omega
   rcases List.eq_nil_or_concat A with rfl|⟨A',z,rfl⟩
   ·have hja:((a:Int)<(j:Int))=False:=eq_false (by simp at hj;omega)
    simp -implicitDefEqProofs only[go_sem]
    refine aF K.mixed (by kernel_rfl) ?_
    simp -implicitDefEqProofs only[↓reduceIte,go_sem,Nat.reduceLT,Nat.reduceEqDiff,reduceCtorEq,t1,t9,hja,t8,hw8]
    refine cl.same ⟨⟨L1,rfl,fin (by simp)⟩,?_⟩
    simp -implicitDefEqProofs only[↓reduceIte,go_sem,Nat.reduceLT,Nat.reduceEqDiff,reduceCtorEq,t0,t1,t2,t3]
   ·simp only[List.concat_eq_append,List.length_append,List.length_singleton]at hL1 hAB hj hABl fin
    have hja:((a:Int)<(j:Int))=True:=eq_true (by omega)
    obtain⟨i,hi⟩:∃i,i=a+A'.length:=⟨_,rfl⟩
    have hw9:IntKind.i64.wrap ((j:Int)-1)=(i:Int):=by rw[wrap64_in _ (by omega) (by omega)];omega
    have hL1':L1=(P++A')++z::(x::(B++(R0++Q))):=by rw[hL1];simp
    have hL1'':L1=(P++A'++[z])++x::(B++(R0++Q)):=by rw[hL1];simp
    have gz:L1[i]?=some z:=by rw[hL1'];exact get_at (by simp;omega)
    have gx:L1[j]?=some x:=by rw[hL1''];exact get_at (by simp;omega)
    have il:i<n:=by omega
    have jl:j<n:=by omega
    have st:(L1.set j z).set i x=P++A'++x::(z::B++(R0++Q)):=by
     rw[hL1'',cy (by simp;omega)]
     have:P++A'++[z]++z::(B++(R0++Q))=(P++A')++z::(z::(B++(R0++Q))):=by simp
     rw[this,cy (by simp;omega)]
     simp
    have gz':=aG gz
    have gx':=aG gx
    have gz2:((L1.set j z).map de)[i]?=some (de z):=by
     refine aG ?_
     rw[List.getElem?_set,if_neg (by omega)];exact gz
    have s1:=cq L1 j z
    have s2:=cq (L1.set j z) i x
    rw[st]at s2
    have gh:=cx hid ver L1
    have hd:=hc.at ver L1 x z
    simp only[de]at gz' gx' gz2 s1 s2
    try simp only[de,List.map_cons,List.map_nil]at hd
    simp -implicitDefEqProofs only[go_sem]
    refine aF K.mixed (by kernel_rfl) ?_
    simp -implicitDefEqProofs only[↓reduceIte,go_sem,ab,Nat.reduceLT,Nat.reduceEqDiff,reduceCtorEq,t0,t1,t3,t9,hja,hw9,il,jl,gh,gz',gx']
    refine ae.ok hd ?_
    by_cases hlt2:c x z<0
    ·have hltb:aV c x z=true:=by simp[aV,hlt2]
     simp -implicitDefEqProofs only[↓reduceIte,go_sem,Nat.reduceLT,Nat.reduceEqDiff,hlt2]
     refine ee [false,false,false,false,false,false,false,false,false,false,false,false,false,false,true,true,true,true] 14 K.mixed (by kernel_rfl) (by kernel_rfl) (by kernel_rfl) ?_
     simp -implicitDefEqProofs only[↓reduceIte,go_sem,ab,aq,Nat.reduceLT,Nat.reduceEqDiff,reduceCtorEq,t0,t9,hw9,il,jl,gh,gz',gx',eB,s1,gz2,s2,hid,List.getElem?_set_self,List.set_set]
     refine⟨_,_,⟨_,A',z::B⟩,ak.refl _ _,⟨by rw[←dT],rfl,by rw[←hAB];simp,?_,?_⟩,by simp⟩
     ·intro y hy
      rcases List.mem_cons.1 hy with rfl|hy
      ·exact hltb
      ·exact hB y hy
     ·simp -implicitDefEqProofs only[↓reduceIte,go_sem,Nat.reduceLT,Nat.reduceEqDiff,reduceCtorEq,t0,t1,t2,t3,t8,show((a:Int)+(A'.length:Int))=(i:Int) by omega]
    ·have hltb:aV c x z=false:=by simp[aV,hlt2]
     have hAx:∀y∈A'++[z],aV c x y=false:=by
      intro y hy
      have hso:=hss
      rw[←hAB]at hso
      rcases List.mem_append.1 hy with hy|hy
      ·exact ho.le_trans (hso.left.tP y hy z (by simp)) hltb
      ·simp at hy;rw[hy];exact hltb
     simp -implicitDefEqProofs only[↓reduceIte,go_sem,Nat.reduceLT,Nat.reduceEqDiff,hlt2,t8,hw8]
     refine cl.same ⟨⟨L1,rfl,fin hAx⟩,?_⟩
     simp -implicitDefEqProofs only[↓reduceIte,go_sem,Nat.reduceLT,Nat.reduceEqDiff,reduceCtorEq,t0,t1,t2,t3]
 ·rintro s H' ⟨⟨Lk,rfl,hLk⟩,t0,t1,t2,t3,t8⟩
  have hlt:((a:Int)+1+((X.length-1:Nat):Int)<(b:Int))=False:=eq_false (by omega)
  simp -implicitDefEqProofs only[↓reduceIte,go_sem,Nat.reduceLT,Nat.reduceEqDiff,t2,t8,hlt]
  have:Lk=L':=by
   rw[hLk,hL',List.take_of_length_le (by omega),List.drop_of_length_le (by omega)];simp
  rw[this]
  exact⟨_,ak.refl _ _,rfl⟩
end SR
end Go.Proofs.YtggohfhfocgilaaGreat
namespace Go.Proofs.YtggohfhfocgilaaGreat
open Go.Proofs.YtggohfhfocgilaaGreatAw Go.RowKit
theorem uW(n k:Nat)(h:k≤64):lE .u64 (n:Int) (k:Int)=((n/2^k:Nat):Int):=by
 have:min k 64=k:=by omega
 simp only[lE,IntKind.bits,Int.toNat_natCast,this]
 rw[Int.fdiv_eq_ediv_of_nonneg _ (by exact_mod_cast Nat.zero_le _)]
 norm_cast
theorem rU(n:Nat)(h:n<256):IntKind.u8.wrap (n:Int)=n:=rM _ (by omega) (by omega)
theorem si(k:IntKind)(a b:Nat)(ha:a<2^k.bits)(hb:b<2^k.bits):G8 k (a:Int) (b:Int)=((a|||b:Nat):Int):=by
 simp[G8,BitVec.toNat_or,BitVec.ofInt_natCast,Nat.mod_eq_of_lt ha,Nat.mod_eq_of_lt hb]
theorem CB(k:IntKind)(a b:Nat)(ha:a<2^k.bits)(hb:b<2^k.bits):CL k (a:Int) (b:Int)=((a&&&b:Nat):Int):=by
 simp[CL,BitVec.toNat_and,BitVec.ofInt_natCast,Nat.mod_eq_of_lt ha,Nat.mod_eq_of_lt hb]
theorem c9(n:Nat)(h:n<18446744073709551616):IntKind.u64.wrap (n:Int)=n:=bz _ (by omega) (by omega)
theorem mP(n:Nat):IntKind.u8.wrap (n:Int)=((n%256:Nat):Int):=by simp[IntKind.wrap,IntKind.signed,IntKind.bits]
theorem CU(n:Nat)(h:n≤1000000000000):IntKind.i64.wrap (n:Int)=(n:Int):=wrap64_in _ (by omega) (by omega)
end Go.Proofs.YtggohfhfocgilaaGreat
namespace Go.Proofs.YtggohfhfocgilaaGreat
open Go.Proofs.YtggohfhfocgilaaGreatAw Go.RowKit
namespace SR
theorem fC(n:Nat)(h:n≤2000000000000):IntKind.i64.wrap (lE .u64 (IntKind.u64.wrap (n:Int)) 1)=((n/2:Nat):Int):=by
 rw[c9 n (by omega)]
 have:=uW n 1 (by decide)
 rw[show((1:Nat):Int)=1 from rfl]at this
 rw[this]
 exact CU _ (by omega)
theorem iq{L P R:List (List al)}{x y:(List al)}(h:L=P++x::y::R){i:Nat}(hi:P.length=i):L[i]?=some x∧L[i+1]?=some y∧(L.set i y)[i+1]?=some y∧(L.set (i+1) x)[i]?=some x∧(L.set i y).set (i+1) x=P++y::x::R∧(L.set (i+1) x).set i y=P++y::x::R:=by
 subst h hi
 have e:P++x::y::R=(P++[x])++y::R:=by simp
 have e2:∀z:(List al),P++z::y::R=(P++[z])++y::R:=by simp
 have h1:∀z:(List al),(P++[z]).length=P.length+1:=by simp
 refine⟨get_at rfl,by rw[e];exact get_at (h1 x),?_,?_,?_,?_⟩
 ·rw[cy rfl,e2];exact get_at (h1 y)
 ·rw[e,cy (h1 x)]
  have:P++[x]++x::R=P++x::(x::R):=by simp
  rw[this];exact get_at rfl
 ·rw[cy rfl,e2,cy (h1 y)];simp
 ·rw[e,cy (h1 x)]
  have:P++[x]++x::R=P++x::(x::R):=by simp
  rw[this,cy rfl]
theorem xP{P X Y Q L:List (List al)}{a:Nat}(hL:L=P++X++Y++Q)(ha:P.length=a):∀i x,X[i]?=some x→L[a+i]?=some x:=fun i x hx=>by
 have:=(List.getElem?_eq_some_iff.1 hx).1
 rw[hL,List.append_assoc,List.append_assoc,←ha,List.getElem?_append_right (by omega),List.getElem?_append_left (by omega),Nat.add_sub_cancel_left]
 exact hx
theorem yJ{P X Y Q L:List (List al)}{m:Nat}(hL:L=P++X++Y++Q)(hm:P.length+X.length=m):∀i y,Y[i]?=some y→L[m+i]?=some y:=fun i y hy=>by
 have:=(List.getElem?_eq_some_iff.1 hy).1
 rw[hL,List.append_assoc (P++X),←hm,List.getElem?_append_right (by simp),List.getElem?_append_left (by simp;omega)]
 simpa[Nat.add_sub_cancel_left]using hy
theorem mS(H:aa)(id ver:Nat)(hid:id<H.length)(g:FuncId)(caps:List AV)(c:(List al)→(List al)→Int)(ho:St.Ord (aV c))(hc:ek g caps c H id)(n:Nat)(hbig:n≤1000000000000)(P X Y Q L L':List (List al))(a m b:Nat)
  (hL:L=P++X++Y++Q) (hL':L'=P++St.aJ (aV c) (X++Y)++Q) (ha:P.length=a) (hm:P.length+X.length=m) (hb:P.length+X.length+Y.length=b) (hX0:0<X.length) (hY0:0<Y.length) (hX:St.aw (aV c) X) (hY:St.aw (aV c) Y) (hn:L.length=n) (h1:X.length=1):
  ag Tryz.prog 184 [.sl id ver 0 n,iA a,iA m,iA b,.fn g caps] (aH H id ver L) (.ok (.a7 [])) (aH H id ver L'):=by
 have hnl:P.length+X.length+Y.length+Q.length=n:=by rw[←hn,hL];simp;omega
 have w1:IntKind.i64.wrap ((m:Int)-(a:Int))=((X.length:Nat):Int):=by rw[wrap64_in _ (by omega) (by omega)];omega
 have w2:IntKind.i64.wrap ((b:Int)-(m:Int))=((Y.length:Nat):Int):=by rw[wrap64_in _ (by omega) (by omega)];omega
 have hLX:=xP hL ha
 have hLY:=yJ hL hm
 generalize hE0:aH H id ver L=E0
 have gh:=cx hid ver L
 rw[hE0]at gh
 have hcE:∀x y:(List al),ag Tryz.prog g ([.d (.list false (x.map al.enc)),.d (.list false (y.map al.enc))]++caps) E0 (.ok (iA (c x y))) E0:=fun x y=>by rw[←hE0];exact hc.at ver L x y
 refine ag.ai (hint:=(fun _=>false)) Tryz.func184 (by kernel_rfl) rfl [] (by kernel_rfl) (by decide) (by simp[Tryz.ntmps184]) ?_
 rw[Tryz.ntmps184]
 obtain⟨x,rfl⟩:∃x,X=[x]:=List.length_eq_one_iff.1 h1
 simp -implicitDefEqProofs only[↓reduceIte,go_sem,Nat.reduceLT,Nat.reduceEqDiff,w1,h1]
 refine bu _ _ _ _ (fun(z:Nat×Nat) s H'=>H'=E0∧z.1≤z.2∧z.2≤Y.length∧(z.1=0∨∃y,Y[z.1-1]?=some y∧aV c y x=true)∧(z.2=Y.length∨∃y,Y[z.2]?=some y∧aV c y x=false)∧
  s 0= .sl id ver 0 n∧s 1=iA a∧s 4= .fn g caps∧s 10=iA ((m+z.1:Nat):Int)∧s 11=iA ((m+z.2:Nat):Int)) (fun z=>z.2-z.1) (0,Y.length) (ak.refl _ _) ?_ ?_
 ·refine⟨rfl,Nat.zero_le _,Nat.le_refl _,.inl rfl,.inl rfl,?_⟩
  simp -implicitDefEqProofs only[↓reduceIte,go_sem,Nat.reduceLT,Nat.reduceEqDiff,reduceCtorEq,show m+Y.length=b by omega,Nat.add_zero]
 ·rintro⟨i,j⟩ s H' ⟨rfl,hij,hj,hlo,hhi,t0,t1,t4,t10,t11⟩
  simp only at hij hj hlo hhi t10 t11
  obtain⟨i',hi'⟩:∃i',i'=m+i:=⟨_,rfl⟩
  obtain⟨j',hj'⟩:∃j',j'=m+j:=⟨_,rfl⟩
  rw[←hi']at t10
  rw[←hj']at t11
  have f1:((m:Int)+(i:Int))=(i':Int):=by omega
  have f2:((m:Int)+(j:Int))=(j':Int):=by omega
  by_cases hlt:i<j
  ·obtain⟨q,hq⟩:∃q,q=i'+j':=⟨_,rfl⟩
   have w3:IntKind.i64.wrap ((i':Int)+(j':Int))=(q:Int):=by rw[wrap64_in _ (by omega) (by omega)];omega
   have w4:=fC q (by omega)
   obtain⟨h,hh⟩:∃h,h=q/2:=⟨_,rfl⟩
   rw[←hh]at w4
   obtain⟨y,hy⟩:∃y,Y[h-m]?=some y:=⟨_,List.getElem?_eq_getElem (show h-m<Y.length by omega)⟩
   have gy:=aG (hLY _ _ hy)
   rw[show m+(h-m)=h by omega]at gy
   have gx:=aG (hLX 0 x rfl)
   rw[Nat.add_zero]at gx
   have hd:=hcE y x
   simp only[de]at gx gy
   try simp only[de,List.map_cons,List.map_nil]at hd
   have hln:h<n:=by omega
   have han:a<n:=by omega
   simp -implicitDefEqProofs only[↓reduceIte,go_sem,Nat.reduceLT,Nat.reduceEqDiff,Int.reduceLE,t10,t11,show((i':Int)<(j':Int))=True from eq_true (by omega),w3,w4]
   refine aF K.mixed (by kernel_rfl) ?_
   simp -implicitDefEqProofs only[↓reduceIte,go_sem,ab,Nat.reduceLT,Nat.reduceEqDiff,reduceCtorEq,t0,t1,t4,gh,gx,gy,hln,han]
   refine ae.ok hd ?_
   by_cases hcc:c y x<0
   ·have hw5:IntKind.i64.wrap ((h:Int)+1)=((m+(h-m+1):Nat):Int):=by rw[wrap64_in _ (by omega) (by omega)];omega
    obtain⟨h2,hh2⟩:∃h2,h2=m+(h-m+1):=⟨_,rfl⟩
    rw[←hh2]at hw5
    simp -implicitDefEqProofs only[↓reduceIte,go_sem,Nat.reduceLT,Nat.reduceEqDiff,hcc,hw5]
    refine⟨_,_,(h-m+1,j),ak.refl _ _,⟨rfl,by simp only;omega,hj,.inr ⟨y,by simpa using hy,by simp[aV,hcc]⟩,hhi,?_⟩,by simp only;omega⟩
    simp -implicitDefEqProofs only[↓reduceIte,go_sem,Nat.reduceLT,Nat.reduceEqDiff,reduceCtorEq,t0,t1,t4,t11,show((m:Int)+(((h-m:Nat):Int)+1))=(h2:Int) by omega,f2]
   ·simp -implicitDefEqProofs only[↓reduceIte,go_sem,Nat.reduceLT,Nat.reduceEqDiff,hcc]
    refine⟨_,_,(i,h-m),ak.refl _ _,⟨rfl,by simp only;omega,by simp only;omega,hlo,.inr ⟨y,hy,by simp[aV,hcc]⟩,?_⟩,by simp only;omega⟩
    simp -implicitDefEqProofs only[↓reduceIte,go_sem,Nat.reduceLT,Nat.reduceEqDiff,reduceCtorEq,t0,t1,t4,t10,show((m:Int)+((h-m:Nat):Int))=(h:Int) by omega,f1]
  ·obtain rfl:j=i:=by omega
   have hmg:=St.q8 ho hY hj hlo hhi
   have hw6:IntKind.i64.wrap ((i':Int)-1)=(i':Int)-1:=wrap64_in _ (by omega) (by omega)
   simp -implicitDefEqProofs only[↓reduceIte,go_sem,Nat.reduceLT,Nat.reduceEqDiff,t10,t11,show((i':Int)<(j':Int))=False from eq_false (by omega),t1]
   refine aA (fun k s H'=>(∃Lk,H'=aH H id ver Lk∧Lk=P++Y.take k++x::(Y.drop k++Q))∧s 0= .sl id ver 0 n∧s 10=iA i'∧s 13=iA ((a:Int)+(k:Int))) j (by omega) (ak.refl _ _) ?_ ?_ ?_
   ·refine⟨⟨L,hE0.symm,by rw[hL];simp⟩,?_⟩
    simp -implicitDefEqProofs only[↓reduceIte,go_sem,Nat.reduceLT,Nat.reduceEqDiff,reduceCtorEq,t0,t10,Int.add_zero]
   ·rintro k s H' hk hw ⟨⟨Lk,rfl,hLk⟩,t0,t10,t13⟩
    have hkY:k<Y.length:=by omega
    have e1:Y.drop k=Y[k]::Y.drop (k+1):=List.drop_eq_getElem_cons hkY
    have e2:Y.take (k+1)=Y.take k++[Y[k]]:=List.take_succ_eq_append_getElem hkY
    rw[e1]at hLk
    rw[e2]
    have l1:(P++Y.take k).length=a+k:=by simp;omega
    generalize Y[k]=y at*
    generalize Y.drop (k+1)=Y1 at*
    generalize Y.take k=Y0 at*
    obtain⟨u,hu⟩:∃u,u=a+k:=⟨_,rfl⟩
    obtain⟨v,hv⟩:∃v,v=u+1:=⟨_,rfl⟩
    rw[←hu]at l1
    obtain⟨g1,g2,g3,_,g5,_⟩:=iq (L:=Lk) (P:=P++Y0) (x:=x) (y:=y) (R:=Y1++Q) (by rw[hLk];simp) l1
    rw[←hv]at g2 g3 g5
    have f3:((a:Int)+(k:Int))=(u:Int):=by omega
    have hw7:IntKind.i64.wrap ((u:Int)+1)=(v:Int):=by rw[wrap64_in _ (by omega) (by omega)];omega
    rw[f3]at t13
    have gg:=cx hid ver Lk
    have q1:=aG g1
    have q2:=aG g2
    have q3:=aG g3
    have s1:=cq Lk u y
    have s2:=cq (Lk.set u y) v x
    rw[g5]at s2
    have hun:u<n:=by omega
    have hvn:v<n:=by omega
    simp only[de]at q1 q2 q3 s1 s2
    simp -implicitDefEqProofs only[↓reduceIte,go_sem,Nat.reduceLT,Nat.reduceEqDiff,t10,t13,hw6,show((u:Int)<(i':Int)-1)=True from eq_true (by omega)]
    refine ee [false,false,false,false,false,false,false,false,false,false,false,false,false,false,true,true,true,true] 14 K.mixed (by kernel_rfl) (by kernel_rfl) (by kernel_rfl) ?_
    simp -implicitDefEqProofs only[↓reduceIte,go_sem,ab,aq,Nat.reduceLT,Nat.reduceEqDiff,reduceCtorEq,t0,t13,hw7,hun,hvn,gg,q1,q2,q3,s1,s2,eB,hid,List.getElem?_set_self,List.set_set]
    refine cl.same ⟨⟨_,by rw[←dT],by simp⟩,?_⟩
    simp -implicitDefEqProofs only[↓reduceIte,go_sem,Nat.reduceLT,Nat.reduceEqDiff,reduceCtorEq,t0,t10,show((a:Int)+((k:Int)+1))=(v:Int) by omega]
   ·rintro s H' ⟨⟨Lk,rfl,hLk⟩,t0,t10,t13⟩
    simp -implicitDefEqProofs only[↓reduceIte,go_sem,Nat.reduceLT,Nat.reduceEqDiff,t10,t13,hw6,show((a:Int)+(j:Int)<(i':Int)-1)=False from eq_false (by omega)]
    have:Lk=L':=by rw[hLk,hL',List.singleton_append,←hmg];simp
    rw[this]
    exact⟨_,ak.refl _ _,rfl⟩
theorem mX(H:aa)(id ver:Nat)(hid:id<H.length)(g:FuncId)(caps:List AV)(c:(List al)→(List al)→Int)(ho:St.Ord (aV c))(hc:ek g caps c H id)(n:Nat)(hbig:n≤1000000000000)(P X Y Q L L':List (List al))(a m b:Nat)
  (hL:L=P++X++Y++Q) (hL':L'=P++St.aJ (aV c) (X++Y)++Q) (ha:P.length=a) (hm:P.length+X.length=m) (hb:P.length+X.length+Y.length=b) (hX0:0<X.length) (hY0:0<Y.length) (hX:St.aw (aV c) X) (hY:St.aw (aV c) Y) (hn:L.length=n) (h1:¬X.length=1) (h2:Y.length=1):
  ag Tryz.prog 184 [.sl id ver 0 n,iA a,iA m,iA b,.fn g caps] (aH H id ver L) (.ok (.a7 [])) (aH H id ver L'):=by
 have hnl:P.length+X.length+Y.length+Q.length=n:=by rw[←hn,hL];simp;omega
 have w1:IntKind.i64.wrap ((m:Int)-(a:Int))=((X.length:Nat):Int):=by rw[wrap64_in _ (by omega) (by omega)];omega
 have w2:IntKind.i64.wrap ((b:Int)-(m:Int))=((Y.length:Nat):Int):=by rw[wrap64_in _ (by omega) (by omega)];omega
 have hLX:=xP hL ha
 have hLY:=yJ hL hm
 generalize hE0:aH H id ver L=E0
 have gh:=cx hid ver L
 rw[hE0]at gh
 have hcE:∀x y:(List al),ag Tryz.prog g ([.d (.list false (x.map al.enc)),.d (.list false (y.map al.enc))]++caps) E0 (.ok (iA (c x y))) E0:=fun x y=>by rw[←hE0];exact hc.at ver L x y
 refine ag.ai (hint:=(fun _=>false)) Tryz.func184 (by kernel_rfl) rfl [] (by kernel_rfl) (by decide) (by simp[Tryz.ntmps184]) ?_
 rw[Tryz.ntmps184]
 obtain⟨y,rfl⟩:∃y,Y=[y]:=List.length_eq_one_iff.1 h2
 simp -implicitDefEqProofs only[↓reduceIte,go_sem,Nat.reduceLT,Nat.reduceEqDiff,w1,w2,show(((X.length:Nat):Int)=1)=False from eq_false (by omega),h2]
 refine bu _ _ _ _ (fun(z:Nat×Nat) s H'=>H'=E0∧z.1≤z.2∧z.2≤X.length∧(z.1=0∨∃x,X[z.1-1]?=some x∧aV c y x=false)∧(z.2=X.length∨∃x,X[z.2]?=some x∧aV c y x=true)∧
  s 0= .sl id ver 0 n∧s 2=iA m∧s 4= .fn g caps∧s 14=iA ((a+z.1:Nat):Int)∧s 15=iA ((a+z.2:Nat):Int)) (fun z=>z.2-z.1) (0,X.length) (ak.refl _ _) ?_ ?_
 ·refine⟨rfl,Nat.zero_le _,Nat.le_refl _,.inl rfl,.inl rfl,?_⟩
  simp -implicitDefEqProofs only[↓reduceIte,go_sem,Nat.reduceLT,Nat.reduceEqDiff,reduceCtorEq,show((a:Int)+((X.length:Nat):Int))=(m:Int) by omega,Nat.add_zero]
 ·rintro⟨i,j⟩ s H' ⟨rfl,hij,hj,hlo,hhi,t0,t2,t4,t14,t15⟩
  simp only at hij hj hlo hhi t14 t15
  obtain⟨i',hi'⟩:∃i',i'=a+i:=⟨_,rfl⟩
  obtain⟨j',hj'⟩:∃j',j'=a+j:=⟨_,rfl⟩
  rw[←hi']at t14
  rw[←hj']at t15
  have f1:((a:Int)+(i:Int))=(i':Int):=by omega
  have f2:((a:Int)+(j:Int))=(j':Int):=by omega
  by_cases hlt:i<j
  ·obtain⟨q,hq⟩:∃q,q=i'+j':=⟨_,rfl⟩
   have w3:IntKind.i64.wrap ((i':Int)+(j':Int))=(q:Int):=by rw[wrap64_in _ (by omega) (by omega)];omega
   have w4:=fC q (by omega)
   obtain⟨h,hh⟩:∃h,h=q/2:=⟨_,rfl⟩
   rw[←hh]at w4
   obtain⟨x,hx⟩:∃x,X[h-a]?=some x:=⟨_,List.getElem?_eq_getElem (show h-a<X.length by omega)⟩
   have gx:=aG (hLX _ _ hx)
   rw[show a+(h-a)=h by omega]at gx
   have gy:=aG (hLY 0 y rfl)
   rw[Nat.add_zero]at gy
   have hd:=hcE y x
   simp only[de]at gx gy
   try simp only[de,List.map_cons,List.map_nil]at hd
   have hln:h<n:=by omega
   have hmn:m<n:=by omega
   simp -implicitDefEqProofs only[↓reduceIte,go_sem,Nat.reduceLT,Nat.reduceEqDiff,Int.reduceLE,t14,t15,show((i':Int)<(j':Int))=True from eq_true (by omega),w3,w4]
   refine aF K.mixed (by kernel_rfl) ?_
   simp -implicitDefEqProofs only[↓reduceIte,go_sem,ab,Nat.reduceLT,Nat.reduceEqDiff,reduceCtorEq,t0,t2,t4,gh,gx,gy,hln,hmn]
   refine ae.ok hd ?_
   by_cases hcc:c y x<0
   ·simp -implicitDefEqProofs only[↓reduceIte,go_sem,Nat.reduceLT,Nat.reduceEqDiff,hcc]
    refine⟨_,_,(i,h-a),ak.refl _ _,⟨rfl,by simp only;omega,by simp only;omega,hlo,.inr ⟨x,hx,by simp[aV,hcc]⟩,?_⟩,by simp only;omega⟩
    simp -implicitDefEqProofs only[↓reduceIte,go_sem,Nat.reduceLT,Nat.reduceEqDiff,reduceCtorEq,t0,t2,t4,t14,show((a:Int)+((h-a:Nat):Int))=(h:Int) by omega,f1]
   ·have hw5:IntKind.i64.wrap ((h:Int)+1)=((a+(h-a+1):Nat):Int):=by rw[wrap64_in _ (by omega) (by omega)];omega
    obtain⟨h2,hh2⟩:∃h2,h2=a+(h-a+1):=⟨_,rfl⟩
    rw[←hh2]at hw5
    simp -implicitDefEqProofs only[↓reduceIte,go_sem,Nat.reduceLT,Nat.reduceEqDiff,hcc,hw5]
    refine⟨_,_,(h-a+1,j),ak.refl _ _,⟨rfl,by simp only;omega,hj,.inr ⟨x,by simpa using hx,by simp[aV,hcc]⟩,hhi,?_⟩,by simp only;omega⟩
    simp -implicitDefEqProofs only[↓reduceIte,go_sem,Nat.reduceLT,Nat.reduceEqDiff,reduceCtorEq,t0,t2,t4,t15,show((a:Int)+(((h-a:Nat):Int)+1))=(h2:Int) by omega,f2]
  ·obtain rfl:j=i:=by omega
   have hmg:=St.pw ho hX hj hhi hlo
   simp -implicitDefEqProofs only[↓reduceIte,go_sem,Nat.reduceLT,Nat.reduceEqDiff,t14,t15,show((i':Int)<(j':Int))=False from eq_false (by omega),t2]
   refine bu _ _ _ _ (fun(k:Nat) s H'=>k≤X.length-j∧(∃Lk,H'=aH H id ver Lk∧Lk=P++X.take (j+k)++y::(X.drop (j+k)++Q))∧s 0= .sl id ver 0 n∧s 14=iA i'∧s 17=iA ((i':Int)+(k:Int))) (fun k=>k) (X.length-j) (ak.refl _ _) ?_ ?_
   ·refine⟨Nat.le_refl _,⟨L,hE0.symm,?_⟩,?_⟩
    ·rw[show j+(X.length-j)=X.length by omega,List.take_length,List.drop_length,hL];simp
    ·simp -implicitDefEqProofs only[↓reduceIte,go_sem,Nat.reduceLT,Nat.reduceEqDiff,reduceCtorEq,t0,t14,show((i':Int)+((X.length-j:Nat):Int))=(m:Int) by omega]
   ·rintro k s H' ⟨hkx,⟨Lk,rfl,hLk⟩,t0,t14,t17⟩
    cases k with
    |zero=>
     simp -implicitDefEqProofs only[↓reduceIte,go_sem,Nat.reduceLT,Nat.reduceEqDiff,t14,t17,Int.add_zero,Int.lt_irrefl]
     have:Lk=L':=by rw[hLk,hL',Nat.add_zero,←hmg];simp
     rw[this]
     exact⟨_,ak.refl _ _,rfl⟩
    |succ k=>
     have hkX:j+k<X.length:=by omega
     have e1:X.drop (j+k)=X[j+k]::X.drop (j+k+1):=List.drop_eq_getElem_cons hkX
     have e2:X.take (j+k+1)=X.take (j+k)++[X[j+k]]:=List.take_succ_eq_append_getElem hkX
     rw[show j+(k+1)=j+k+1 by omega,e2]at hLk
     have l1:(P++X.take (j+k)).length=i'+k:=by simp;omega
     obtain⟨u,hu⟩:∃u,u=i'+k:=⟨_,rfl⟩
     obtain⟨v,hv⟩:∃v,v=u+1:=⟨_,rfl⟩
     rw[←hu]at l1
     have fk:((i':Int)+((k+1:Nat):Int))=(v:Int):=by omega
     have fk2:((i':Int)+(k:Int))=(u:Int):=by omega
     rw[fk]at t17
     generalize X[j+k]=x at*
     generalize X.drop (j+k+1)=X1 at*
     obtain⟨g1,g2,_,g4,_,g6⟩:=iq (L:=Lk) (P:=P++X.take (j+k)) (x:=x) (y:=y) (R:=X1++Q) (by rw[hLk];simp) l1
     rw[←hv]at g2 g4 g6
     have hw7:IntKind.i64.wrap ((v:Int)-1)=(u:Int):=by rw[wrap64_in _ (by omega) (by omega)];omega
     have gg:=cx hid ver Lk
     have q1:=aG g1
     have q2:=aG g2
     have q4:=aG g4
     have s1:=cq Lk v x
     have s2:=cq (Lk.set v x) u y
     rw[g6]at s2
     have hun:u<n:=by omega
     have hvn:v<n:=by omega
     simp only[de]at q1 q2 q4 s1 s2
     simp -implicitDefEqProofs only[↓reduceIte,go_sem,Nat.reduceLT,Nat.reduceEqDiff,t14,t17,show((i':Int)<(v:Int))=True from eq_true (by omega)]
     refine ee [false,false,false,false,false,false,false,false,false,false,false,false,false,false,true,true,true,true] 14 K.mixed (by kernel_rfl) (by kernel_rfl) (by kernel_rfl) ?_
     simp -implicitDefEqProofs only[↓reduceIte,go_sem,ab,aq,Nat.reduceLT,Nat.reduceEqDiff,reduceCtorEq,t0,t17,hw7,hun,hvn,gg,q1,q2,q4,s1,s2,eB,hid,List.getElem?_set_self,List.set_set]
     refine⟨_,_,k,ak.refl _ _,⟨by omega,⟨_,by rw[←dT],by rw[e1];simp⟩,?_⟩,by omega⟩
     simp -implicitDefEqProofs only[↓reduceIte,go_sem,Nat.reduceLT,Nat.reduceEqDiff,reduceCtorEq,t0,t14,fk2]
end SR
end Go.Proofs.YtggohfhfocgilaaGreat
namespace Go.Proofs.YtggohfhfocgilaaGreat
open Go.Proofs.YtggohfhfocgilaaGreatAw Go.RowKit
namespace SR
def Hid(p:Prop):Prop:=p
theorem mQ{a m b q mid n0 s0 r0 lx ly:Nat}(hm:a+lx=m)(hb:a+lx+ly=b)(hq:q=a+b)(hmid:mid=q/2)(hn0:n0=mid+m)(hs0:s0=if mid<m then n0-b else a)(hr0:r0=if mid<m then mid else m)(hx:0<lx)(hy:0<ly)(h1:¬lx=1):
  (s0≤r0∧a≤s0∧r0≤m∧r0≤mid)∧(n0≤b+s0∧mid<b∧a<mid)∧Hid (r0=m∨n0=m+r0)∧Hid (s0=a∨n0=b+s0)∧m+r0≤n0∧(mid<m→b≤n0):=by
 by_cases h:mid<m
 ·rw[if_pos h]at hs0 hr0;unfold Hid;omega
 ·rw[if_neg h]at hs0 hr0;unfold Hid;omega
theorem na(H:aa)(id ver:Nat)(hid:id<H.length)(g:FuncId)(caps:List AV)(c:(List al)→(List al)→Int)(ho:St.Ord (aV c))(hc:ek g caps c H id)(n:Nat)(hbig:n≤1000000000000)(P X Y Q L L':List (List al))(a m b:Nat)
  (hL:L=P++X++Y++Q) (hL':L'=P++St.aJ (aV c) (X++Y)++Q) (ha:P.length=a) (hm:P.length+X.length=m) (hb:P.length+X.length+Y.length=b) (hX0:0<X.length) (hY0:0<Y.length) (hX:St.aw (aV c) X) (hY:St.aw (aV c) Y) (hn:L.length=n) (h1:¬X.length=1) (h2:¬Y.length=1)
  (ih:∀(P' X' Y' Q' L1 L2:List (List al)) (a' m' b':Nat),X'.length+Y'.length<X.length+Y.length→L1=P'++X'++Y'++Q'→L2=P'++St.aJ (aV c) (X'++Y')++Q'→P'.length=a'→P'.length+X'.length=m'→P'.length+X'.length+Y'.length=b'→0<X'.length→0<Y'.length→
   St.aw (aV c) X'→St.aw (aV c) Y'→L1.length=n→ag Tryz.prog 184 [.sl id ver 0 n,iA a',iA m',iA b',.fn g caps] (aH H id ver L1) (.ok (.a7 [])) (aH H id ver L2)):
  ag Tryz.prog 184 [.sl id ver 0 n,iA a,iA m,iA b,.fn g caps] (aH H id ver L) (.ok (.a7 [])) (aH H id ver L'):=by
 have hnl:P.length+X.length+Y.length+Q.length=n:=by rw[←hn,hL];simp;omega
 have w1:IntKind.i64.wrap ((m:Int)-(a:Int))=((X.length:Nat):Int):=by rw[wrap64_in _ (by omega) (by omega)];omega
 have w2:IntKind.i64.wrap ((b:Int)-(m:Int))=((Y.length:Nat):Int):=by rw[wrap64_in _ (by omega) (by omega)];omega
 have hLX:=xP hL ha
 have hLY:=yJ hL hm
 generalize hE0:aH H id ver L=E0
 have gh:=cx hid ver L
 rw[hE0]at gh
 have hcE:∀x y:(List al),ag Tryz.prog g ([.d (.list false (x.map al.enc)),.d (.list false (y.map al.enc))]++caps) E0 (.ok (iA (c x y))) E0:=fun x y=>by rw[←hE0];exact hc.at ver L x y
 refine ag.ai (hint:=(fun _=>false)) Tryz.func184 (by kernel_rfl) rfl [] (by kernel_rfl) (by decide) (by simp[Tryz.ntmps184]) ?_
 rw[Tryz.ntmps184]
 obtain⟨q,hq⟩:∃q,q=a+b:=⟨_,rfl⟩
 obtain⟨mid,hmid⟩:∃mid,mid=q/2:=⟨_,rfl⟩
 obtain⟨n0,hn0⟩:∃n0,n0=mid+m:=⟨_,rfl⟩
 obtain⟨p,hp⟩:∃p,p=n0-1:=⟨_,rfl⟩
 have w3:IntKind.i64.wrap ((a:Int)+(b:Int))=(q:Int):=by rw[wrap64_in _ (by omega) (by omega)];omega
 have w4:=fC q (by omega)
 rw[←hmid]at w4
 have w5:IntKind.i64.wrap ((mid:Int)+(m:Int))=(n0:Int):=by rw[wrap64_in _ (by omega) (by omega)];omega
 have w6:IntKind.i64.wrap ((n0:Int)-1)=(p:Int):=by rw[wrap64_in _ (by omega) (by omega)];omega
 obtain⟨s0,hs0⟩:∃s0,s0=if mid<m then n0-b else a:=⟨_,rfl⟩
 obtain⟨r0,hr0⟩:∃r0,r0=if mid<m then mid else m:=⟨_,rfl⟩
 obtain⟨a1,a2,a3,a4,a5,a6⟩:=mQ (by omega) (by omega) hq hmid hn0 hs0 hr0 hX0 hY0 h1
 have w7:mid<m→IntKind.i64.wrap ((n0:Int)-(b:Int))=(s0:Int):=fun h=>by have:=a6 h;rw[if_pos h]at hs0;rw[wrap64_in _ (by omega) (by omega)];omega
 simp -implicitDefEqProofs only[↓reduceIte,go_sem,Nat.reduceLT,Nat.reduceEqDiff,Int.reduceLE,w1,w2,show(((X.length:Nat):Int)=1)=False from eq_false (by omega),show(((Y.length:Nat):Int)=1)=False from eq_false (by omega),w3,w4,w5]
 refine eK (fun s H'=>H'=E0∧s 0= .sl id ver 0 n∧s 1=iA a∧s 2=iA m∧s 3=iA b∧s 4= .fn g caps∧s 18=iA mid∧s 19=iA n0∧s 20=iA s0∧s 21=iA r0) rfl ?_ ?_
 ·by_cases hmm:mid<m
  ·simp -implicitDefEqProofs only[↓reduceIte,go_sem,Nat.reduceLT,Nat.reduceEqDiff,reduceCtorEq,eq_true hmm,w7 hmm]
   rw[hr0,if_pos hmm]
  ·simp -implicitDefEqProofs only[↓reduceIte,go_sem,Nat.reduceLT,Nat.reduceEqDiff,reduceCtorEq,eq_false hmm]
   rw[hs0,hr0,if_neg hmm,if_neg hmm]
   exact⟨rfl,rfl⟩
 ·clear hs0 hr0 w3 w4 w5 w7 a6 hmid
  rintro s H' ⟨rfl,t0,t1,t2,t3,t4,t18,t19,t20,t21⟩
  simp -implicitDefEqProofs only[↓reduceIte,go_sem,Nat.reduceLT,t19,w6]
  refine gp (fun s H1=>H1=H'∧(∃st,s0≤st∧st≤r0∧Hid (st=s0∨∃x y,X[st-1-a]?=some x∧Y[n0-st-m]?=some y∧aV c y x=false)∧Hid (st=r0∨∃x y,X[st-a]?=some x∧Y[p-st-m]?=some y∧aV c y x=true)∧s 20=iA st)∧
   s 0= .sl id ver 0 n∧s 1=iA a∧s 2=iA m∧s 3=iA b∧s 4= .fn g caps∧s 18=iA mid∧s 19=iA n0) rfl ?_ ?_
  ·refine bu _ _ _ _ (fun(z:Nat×Nat) s H1=>H1=H'∧s0≤z.1∧z.1≤z.2∧z.2≤r0∧Hid (z.1=s0∨∃x y,X[z.1-1-a]?=some x∧Y[n0-z.1-m]?=some y∧aV c y x=false)∧Hid (z.2=r0∨∃x y,X[z.2-a]?=some x∧Y[p-z.2-m]?=some y∧aV c y x=true)∧
    s 0= .sl id ver 0 n∧s 1=iA a∧s 2=iA m∧s 3=iA b∧s 4= .fn g caps∧s 18=iA mid∧s 19=iA n0∧s 20=iA z.1∧s 21=iA z.2∧s 22=iA p) (fun z=>z.2-z.1) (s0,r0) (ak.refl _ _) ?_ ?_
   ·refine⟨rfl,Nat.le_refl _,a1.1,Nat.le_refl _,.inl rfl,.inl rfl,?_⟩
    simp -implicitDefEqProofs only[↓reduceIte,go_sem,Nat.reduceLT,Nat.reduceEqDiff,reduceCtorEq,t0,t1,t2,t3,t4,t18,t19,t20,t21]
   ·rintro⟨i,j⟩ s H1 ⟨rfl,hi0,hij,hj0,hlo,hhi,t0,t1,t2,t3,t4,t18,t19,t20,t21,t22⟩
    simp only at hi0 hij hj0 hlo hhi t20 t21
    by_cases hlt:i<j
    ·obtain⟨qq,hqq⟩:∃qq,qq=i+j:=⟨_,rfl⟩
     have v3:IntKind.i64.wrap ((i:Int)+(j:Int))=(qq:Int):=by rw[wrap64_in _ (by omega) (by omega)];omega
     have v4:=fC qq (by omega)
     obtain⟨h,hh⟩:∃h,h=qq/2:=⟨_,rfl⟩
     rw[←hh]at v4
     have hpc:m≤p-h∧p-h<b∧h<m∧a≤h:=by omega
     obtain⟨pc,hpc2⟩:∃pc,pc=p-h:=⟨_,rfl⟩
     have v5:IntKind.i64.wrap ((p:Int)-(h:Int))=(pc:Int):=by rw[wrap64_in _ (by omega) (by omega)];omega
     obtain⟨x,hx⟩:∃x,X[h-a]?=some x:=⟨_,List.getElem?_eq_getElem (show h-a<X.length by omega)⟩
     obtain⟨y,hy⟩:∃y,Y[pc-m]?=some y:=⟨_,List.getElem?_eq_getElem (show pc-m<Y.length by omega)⟩
     have gx:=aG (hLX _ _ hx)
     rw[show a+(h-a)=h by omega]at gx
     have gy:=aG (hLY _ _ hy)
     rw[show m+(pc-m)=pc by omega]at gy
     have hd:=hcE y x
     simp only[de]at gx gy
     try simp only[de,List.map_cons,List.map_nil]at hd
     have hln:h<n:=by omega
     have hpn:pc<n:=by omega
     simp -implicitDefEqProofs only[↓reduceIte,go_sem,Nat.reduceLT,Nat.reduceEqDiff,Int.reduceLE,t20,t21,eq_true hlt,v3,v4]
     refine aF K.mixed (by kernel_rfl) ?_
     simp -implicitDefEqProofs only[↓reduceIte,go_sem,ab,Nat.reduceLT,Nat.reduceEqDiff,reduceCtorEq,t0,t4,t22,gh,gx,gy,hln,hpn,v5]
     refine ae.ok hd ?_
     by_cases hcc:c y x<0
     ·simp -implicitDefEqProofs only[↓reduceIte,go_sem,Nat.reduceLT,Nat.reduceEqDiff,hcc]
      refine⟨_,_,(i,h),ak.refl _ _,⟨rfl,hi0,by simp only;omega,by simp only;omega,hlo,.inr ⟨x,y,hx,by rw[←hpc2];exact hy,by simp[aV,hcc]⟩,?_⟩,by simp only;omega⟩
      simp -implicitDefEqProofs only[↓reduceIte,go_sem,Nat.reduceLT,Nat.reduceEqDiff,reduceCtorEq,t0,t1,t2,t3,t4,t18,t19,t20,t22]
     ·have v6:IntKind.i64.wrap ((h:Int)+1)=(h:Int)+1:=wrap64_in _ (by omega) (by omega)
      simp -implicitDefEqProofs only[↓reduceIte,go_sem,Nat.reduceLT,Nat.reduceEqDiff,hcc,v6]
      refine⟨_,_,(h+1,j),ak.refl _ _,⟨rfl,by simp only;omega,by simp only;omega,hj0,.inr ⟨x,y,by simpa using hx,by rw[show n0-(h+1)-m=pc-m by omega];exact hy,by simp[aV,hcc]⟩,hhi,?_⟩,by simp only;omega⟩
      simp -implicitDefEqProofs only[↓reduceIte,go_sem,Nat.reduceLT,Nat.reduceEqDiff,reduceCtorEq,t0,t1,t2,t3,t4,t18,t19,t21,t22]
    ·obtain rfl:j=i:=by omega
     simp -implicitDefEqProofs only[↓reduceIte,go_sem,Nat.reduceLT,Nat.reduceEqDiff,reduceCtorEq,t20,t21,Nat.lt_irrefl]
     exact⟨⟨j,hi0,hj0,hlo,hhi,rfl⟩,t0,t1,t2,t3,t4,t18,t19⟩
  ·rintro s H1 ⟨rfl,⟨st,hst0,hst1,hlo,hhi,t20⟩,t0,t1,t2,t3,t4,t18,t19⟩
   clear w6
   obtain⟨e,he⟩:∃e,e=n0-st:=⟨_,rfl⟩
   obtain⟨sX,hsX⟩:∃sX,sX=st-a:=⟨_,rfl⟩
   obtain⟨eY,heY⟩:∃eY,eY=e-m:=⟨_,rfl⟩
   have w8:IntKind.i64.wrap ((n0:Int)-(st:Int))=(e:Int):=by rw[wrap64_in _ (by omega) (by omega)];omega
   have b1:sX≤X.length∧eY≤Y.length∧m≤e∧e≤b∧mid=st+eY∧e=mid+(m-st):=by omega
   have hcut:=St.nc ho hX hY (s:=sX) (e:=eY) b1.1 b1.2.1 ?_ ?_
   rotate_left
   ·rcases hhi with h|⟨x,y,hx,hy,h⟩
    ·rcases a3 with h3|h3
     ·exact .inl (by omega)
     ·exact .inr (.inl (by omega))
    ·exact .inr (.inr ⟨x,y,by rw[hsX];exact hx,by rw[show eY-1=p-st-m by omega];exact hy,h⟩)
   ·rcases hlo with h|⟨x,y,hx,hy,h⟩
    ·rcases a4 with h4|h4
     ·exact .inl (by omega)
     ·exact .inr (.inl (by omega))
    ·exact .inr (.inr ⟨x,y,by rw[show sX-1=st-1-a by omega];exact hx,by rw[show eY=n0-st-m by omega];exact hy,h⟩)
   have hXs:=hX
   have hYs:=hY
   have eX:X.take sX++X.drop sX=X:=List.take_append_drop _ _
   have eY':Y.take eY++Y.drop eY=Y:=List.take_append_drop _ _
   have lA:(X.take sX).length=sX:=by rw[List.length_take];omega
   have lU:(X.drop sX).length=X.length-sX:=List.length_drop
   have lV:(Y.take eY).length=eY:=by rw[List.length_take];omega
   have lB:(Y.drop eY).length=Y.length-eY:=List.length_drop
   rw[←eX]at hXs
   rw[←eY']at hYs
   have sA:=hXs.left
   have sU:=hXs.right
   have sV:=hYs.left
   have sB:=hYs.right
   clear hXs hYs hlo hhi a3 a4
   generalize hA:X.take sX=A at*
   generalize hU:X.drop sX=U at*
   generalize hV:Y.take eY=V at*
   generalize hB:Y.drop eY=B at*
   have hLL:L=P++A++U++V++(B++Q):=by rw[hL,←eX,←eY'];simp
   obtain⟨L1,hL1⟩:∃L1,L1=P++A++V++U++(B++Q):=⟨_,rfl⟩
   obtain⟨L2,hL2⟩:∃L2,L2=P++St.aJ (aV c) (A++V)++U++B++Q:=⟨_,rfl⟩
   have hL3:L'=P++St.aJ (aV c) (A++V)++St.aJ (aV c) (U++B)++Q:=by rw[hL',←hcut];simp
   have n1:L1.length=n:=by rw[←hn,hLL,hL1];simp;omega
   have n2:L2.length=n:=by rw[←hn,hLL,hL2];simp[St.aW];omega
   rw[dS]
   refine gw (fun s H2=>H2=aH H id ver L∧s 0= .sl id ver 0 n∧s 1=iA a∧s 2=iA m∧s 3=iA b∧s 4= .fn g caps∧s 18=iA mid∧s 20=iA st∧s 24=iA e) rfl (by simp -implicitDefEqProofs only[↓reduceIte,go_sem,Nat.reduceLT,Nat.reduceEqDiff,reduceCtorEq,t0,t1,t2,t3,t4,t18,t19,t20,w8,hE0]) ?_
   rintro s H2 ⟨rfl,t0,t1,t2,t3,t4,t18,t20,t24⟩
   rw[dS]
   refine gw (fun s H2=>H2=aH H id ver L1∧s 0= .sl id ver 0 n∧s 1=iA a∧s 2=iA m∧s 3=iA b∧s 4= .fn g caps∧s 18=iA mid∧s 20=iA st∧s 24=iA e) rfl ?_ ?_
   ·have same:U=[]∨V=[]→aH H id ver L=aH H id ver L1:=fun h=>by
     rw[hL1,hLL];rcases h with rfl|rfl<;>simp
    by_cases c1:st<m
    ·by_cases c2:m<e
     ·simp -implicitDefEqProofs only[↓reduceIte,go_sem,Nat.reduceLT,Nat.reduceEqDiff,reduceCtorEq,t2,t20,t24,eq_true c1,eq_true c2]
      simp -implicitDefEqProofs only[go_sem,t0,t4]
      refine ae.ok (j8 H id ver hid g caps (P++A) U V (B++Q) L L1 hLL (by rw[hL1]) st m e n (by simp;omega) (by simp;omega) (by simp;omega) (by omega) (by omega) hn hbig) ?_
      simp -implicitDefEqProofs only[↓reduceIte,go_sem,Nat.reduceEqDiff,reduceCtorEq,t0,t1,t2,t3,t4,t18,t20,t24]
     ·simp -implicitDefEqProofs only[↓reduceIte,go_sem,Nat.reduceLT,Nat.reduceEqDiff,reduceCtorEq,t2,t20,t24,eq_true c1,eq_false c2]
      simp -implicitDefEqProofs only[go_sem,t0,t1,t3,t4,t18]
      exact same (.inr (List.eq_nil_of_length_eq_zero (by omega)))
    ·simp -implicitDefEqProofs only[↓reduceIte,go_sem,Nat.reduceLT,Nat.reduceEqDiff,reduceCtorEq,t2,t20,t24,eq_false c1]
     simp -implicitDefEqProofs only[go_sem,t0,t1,t3,t4,t18]
     exact same (.inl (List.eq_nil_of_length_eq_zero (by omega)))
   rintro s H2 ⟨rfl,t0,t1,t2,t3,t4,t18,t20,t24⟩
   rw[dS]
   refine gw (fun s H2=>H2=aH H id ver L2∧s 0= .sl id ver 0 n∧s 3=iA b∧s 4= .fn g caps∧s 18=iA mid∧s 24=iA e) rfl ?_ ?_
   ·have same:A=[]∨V=[]→aH H id ver L1=aH H id ver L2:=fun h=>by
     have:St.aJ (aV c) (A++V)=A++V:=by
      rcases h with rfl|rfl
      ·simpa using St.cI ho sV
      ·simpa using St.cI ho sA
     rw[hL1,hL2,this];simp
    by_cases c1:a<st
    ·by_cases c2:st<mid
     ·simp -implicitDefEqProofs only[↓reduceIte,go_sem,Nat.reduceLT,Nat.reduceEqDiff,reduceCtorEq,t1,t18,t20,eq_true c1,eq_true c2]
      simp -implicitDefEqProofs only[go_sem,t0,t4]
      refine ae.ok (ih P A V (U++(B++Q)) L1 L2 a st mid (by omega) (by rw[hL1];simp) (by rw[hL2];simp) ha (by omega) (by omega) (by omega) (by omega) sA sV n1) ?_
      simp -implicitDefEqProofs only[↓reduceIte,go_sem,Nat.reduceEqDiff,reduceCtorEq,t0,t3,t4,t18,t24]
     ·simp -implicitDefEqProofs only[↓reduceIte,go_sem,Nat.reduceLT,Nat.reduceEqDiff,reduceCtorEq,t1,t18,t20,eq_true c1,eq_false c2]
      simp -implicitDefEqProofs only[go_sem,t0,t3,t4,t24]
      exact same (.inr (List.eq_nil_of_length_eq_zero (by omega)))
    ·simp -implicitDefEqProofs only[↓reduceIte,go_sem,Nat.reduceLT,Nat.reduceEqDiff,reduceCtorEq,t1,t18,t20,eq_false c1]
     simp -implicitDefEqProofs only[go_sem,t0,t3,t4,t24]
     exact same (.inl (List.eq_nil_of_length_eq_zero (by omega)))
   rintro s H2 ⟨rfl,t0,t3,t4,t18,t24⟩
   have same:U=[]∨B=[]→aH H id ver L2=aH H id ver L':=fun h=>by
    have:St.aJ (aV c) (U++B)=U++B:=by
     rcases h with rfl|rfl
     ·simpa using St.cI ho sB
     ·simpa using St.cI ho sU
    rw[hL2,hL3,this];simp
   by_cases c1:mid<e
   ·by_cases c2:e<b
    ·simp -implicitDefEqProofs only[↓reduceIte,go_sem,Nat.reduceLT,Nat.reduceEqDiff,reduceCtorEq,t3,t18,t24,eq_true c1,eq_true c2]
     simp -implicitDefEqProofs only[go_sem,t0,t4]
     have lS:=St.aW (lt:=aV c) (A++V)
     rw[List.length_append]at lS
     refine ae.ok (ih (P++St.aJ (aV c) (A++V)) U B Q L2 L' mid e b (by omega) (by rw[hL2]) (by rw[hL3]) (by simp;omega) (by simp;omega) (by simp;omega) (by omega) (by omega) sU sB n2) ?_
     simp -implicitDefEqProofs only[go_sem]
     exact⟨_,ak.refl _ _,rfl⟩
    ·simp -implicitDefEqProofs only[↓reduceIte,go_sem,Nat.reduceLT,Nat.reduceEqDiff,t3,t18,t24,eq_true c1,eq_false c2]
     rw[same (.inr (List.eq_nil_of_length_eq_zero (by omega)))]
     exact⟨_,ak.refl _ _,rfl⟩
   ·simp -implicitDefEqProofs only[↓reduceIte,go_sem,Nat.reduceLT,Nat.reduceEqDiff,reduceCtorEq,t18,t24,eq_false c1]
    rw[same (.inl (List.eq_nil_of_length_eq_zero (by omega)))]
    exact⟨_,ak.refl _ _,rfl⟩
end SR
end Go.Proofs.YtggohfhfocgilaaGreat
namespace Go.Proofs.YtggohfhfocgilaaGreat
namespace St
variable {α:Type} {lt:α→α→Bool}
def e9(s j:Nat)(l:List α):List α:=(l.drop (j* s)).take s
theorem zL{s j k:Nat}{P R:List α}(hP:P.length=k* s)(hj:j<k):e9 s j (P++R)=(P.drop (j* s)).take s:=by
 have h1:(j+1)* s≤k* s:=Nat.mul_le_mul_right s hj
 rw[Nat.add_mul,Nat.one_mul]at h1
 unfold e9
 rw[List.drop_append_of_le_length (by omega),List.take_append_of_le_length (by rw[List.length_drop];omega)]
theorem F8{s k:Nat}{P X Q:List α}(hP:P.length=k* s)(hX:X.length=s∨X.length≤s∧Q=[]):e9 s k (P++X++Q)=X:=by
 unfold e9
 rw[List.append_assoc,←hP,List.drop_left]
 rcases hX with h|⟨h,rfl⟩
 ·rw[←h,List.take_left]
 ·rw[List.append_nil,List.take_of_length_le h]
theorem nm{P X Q:List α}{i:Nat}(h:P.length+X.length≤i):(P++X++Q).drop i=Q.drop (i-(P.length+X.length)):=by
 rw[List.drop_append,List.drop_of_length_le (by rw[List.length_append];exact h),List.nil_append,List.length_append]
theorem ow{s j:Nat}{P X X' Q:List α}(hX:X.length=X'.length)(h:P.length+X.length≤j* s):e9 s j (P++X++Q)=e9 s j (P++X'++Q):=by
 unfold e9
 rw[nm h,nm (by omega),hX]
theorem oh{s j:Nat}{l:List α}(h:l.length≤j* s):e9 s j l=[]:=by
 unfold e9
 rw[List.drop_of_length_le h,List.take_nil]
theorem fl(ho:Ord lt){s k:Nat}{P X Q:List α}(hP:P.length=k* s)(h:∀j,j<k→aw lt (e9 s j (P++X++Q)))(hX:X.length=s∨X.length≤s∧Q=[]):∀j,j<k+1→aw lt (e9 s j (P++aJ lt X++Q)):=by
 intro j hj
 rcases Nat.lt_or_ge j k with h1|h1
 ·have:=h j h1
  rw[List.append_assoc,zL hP h1]at this⊢
  exact this
 ·obtain rfl:j=k:=by omega
  rw[F8 hP (by rw[aW];exact hX)]
  exact cz ho X
theorem ef(ho:Ord lt)(P X Q:List α):bG lt (P++aJ lt X++Q) (P++X++Q):=bG.app (bG.app (.refl _) (dY ho X)) (.refl _)
theorem Gd(l:List α)(a s:Nat):l.take a++(l.drop a).take s++l.drop (a+s)=l:=by
 rw[List.append_assoc,←List.drop_drop,List.take_append_drop,List.take_append_drop]
theorem D5(l:List α)(a s t:Nat):l.take a++(l.drop a).take s++(l.drop (a+s)).take t++l.drop (a+s+t)=l:=by
 have e:(l.drop (a+s)).take t++l.drop (a+s+t)=l.drop (a+s):=by
  have:=List.take_append_drop t (l.drop (a+s))
  rwa[List.drop_drop]at this
 rw[List.append_assoc,e,Gd]
end St
end Go.Proofs.YtggohfhfocgilaaGreat
namespace Go.Proofs.YtggohfhfocgilaaGreat
open Go.Proofs.YtggohfhfocgilaaGreatAw Go.RowKit
namespace SR
theorem dQ(H:aa)(id ver:Nat)(hid:id<H.length)(g:FuncId)(caps:List AV)(c:(List al)→(List al)→Int)(ho:St.Ord (aV c))(hc:ek g caps c H id)(n:Nat)(hbig:n≤1000000000000):∀(N:Nat) (P X Y Q L L':List (List al)) (a m b:Nat),X.length+Y.length≤N→
  L=P++X++Y++Q→L'=P++St.aJ (aV c) (X++Y)++Q→P.length=a→P.length+X.length=m→P.length+X.length+Y.length=b→0<X.length→0<Y.length→St.aw (aV c) X→St.aw (aV c) Y→L.length=n→
  ag Tryz.prog 184 [.sl id ver 0 n,iA a,iA m,iA b,.fn g caps] (aH H id ver L) (.ok (.a7 [])) (aH H id ver L'):=by
 intro N
 induction N with
 |zero=>intros;omega
 |succ N ih=>
  intro P X Y Q L L' a m b hN hL hL' ha hm hb hX0 hY0 hX hY hn
  by_cases h1:X.length=1
  ·exact mS H id ver hid g caps c ho hc n hbig P X Y Q L L' a m b hL hL' ha hm hb hX0 hY0 hX hY hn h1
  ·by_cases h2:Y.length=1
   ·exact mX H id ver hid g caps c ho hc n hbig P X Y Q L L' a m b hL hL' ha hm hb hX0 hY0 hX hY hn h1 h2
   ·exact na H id ver hid g caps c ho hc n hbig P X Y Q L L' a m b hL hL' ha hm hb hX0 hY0 hX hY hn h1 h2 fun P' X' Y' Q' L1 L2 a' m' b' hlt=>ih P' X' Y' Q' L1 L2 a' m' b' (by omega)
theorem j4(H:aa)(id ver:Nat)(hid:id<H.length)(g:FuncId)(caps:List AV)(c:(List al)→(List al)→Int)(ho:St.Ord (aV c))(hc:ek g caps c H id)(n:Nat)(hbig:n≤100000000000)(L:List (List al))(hn:L.length=n):
  ag Tryz.prog 152 [.sl id ver 0 n,iA n,.fn g caps] (aH H id ver L) (.ok (.a7 [])) (aH H id ver (St.aJ (aV c) L)):=by
 generalize hE0:aH H id ver L=E0
 generalize hE1:aH H id ver (St.aJ (aV c) L)=E1
 refine ag.ai (hint:=(fun _=>false)) Tryz.func152 (by kernel_rfl) rfl [] (by kernel_rfl) (by decide) (by simp[Tryz.ntmps152]) ?_
 rw[Tryz.ntmps152]
 simp -implicitDefEqProofs only[↓reduceIte,go_sem,Nat.reduceLT,Nat.reduceEqDiff]
 refine gp (fun s H'=>(∃Lk,H'=aH H id ver Lk∧St.bG (aV c) Lk L∧Lk.length=n∧(∃k,k* 20≤n∧n<(k+1)* 20∧(∀j,j<k→St.aw (aV c) (St.e9 20 j Lk))∧s 7=iA ((k* 20:Nat):Int)))∧s 0= .sl id ver 0 n∧s 1=iA n∧s 2= .fn g caps∧s 6=iA 20) rfl ?_ ?_
 ·refine bu _ _ _ _ (fun(k:Nat) s H'=>k* 20≤n∧(∃Lk,H'=aH H id ver Lk∧St.bG (aV c) Lk L∧Lk.length=n∧∀j,j<k→St.aw (aV c) (St.e9 20 j Lk))∧s 0= .sl id ver 0 n∧s 1=iA n∧s 2= .fn g caps∧s 6=iA 20∧s 7=iA ((k* 20:Nat):Int)∧s 8=iA (((k+1)* 20:Nat):Int)) (fun k=>n-k) 0 (ak.refl _ _) ?_ ?_
  ·refine⟨by omega,⟨L,hE0.symm,.refl _,hn,fun j hj=>by omega⟩,?_⟩
   simp -implicitDefEqProofs only[↓reduceIte,go_sem,Nat.reduceLT,Nat.reduceEqDiff,reduceCtorEq]
  ·rintro k s H' ⟨hk,⟨Lk,rfl,hst,hlen,hso⟩,t0,t1,t2,t6,t7,t8⟩
   obtain⟨a,ha⟩:∃a,a=k* 20:=⟨_,rfl⟩
   obtain⟨b,hb⟩:∃b,b=(k+1)* 20:=⟨_,rfl⟩
   rw[←ha]at t7
   rw[←hb]at t8
   by_cases hbn:b≤n
   ·obtain⟨P,hP⟩:∃P,P=Lk.take a:=⟨_,rfl⟩
    obtain⟨X,hX⟩:∃X,X=(Lk.drop a).take 20:=⟨_,rfl⟩
    obtain⟨Q,hQ⟩:∃Q,Q=Lk.drop (a+20):=⟨_,rfl⟩
    have hc3:Lk=P++X++Q:=by rw[hP,hX,hQ,St.Gd]
    have lP:P.length=a:=by rw[hP,List.length_take];omega
    have lX:X.length=20:=by rw[hX,List.length_take,List.length_drop];omega
    obtain⟨L1,hL1⟩:∃L1,L1=P++St.aJ (aV c) X++Q:=⟨_,rfl⟩
    have lL1:L1.length=n:=by rw[hL1,←hlen,hc3];simp[St.aW]
    have hso1:∀j,j<k+1→St.aw (aV c) (St.e9 20 j L1):=by
     rw[hL1];exact St.fl ho (by omega) (by rw[←hc3];exact hso) (.inl lX)
    have hst1:St.bG (aV c) L1 L:=by
     refine St.bG.trans ?_ hst
     rw[hL1,hc3];exact St.ef ho P X Q
    have w1:IntKind.i64.wrap ((b:Int)+20)=(((k+1+1)* 20:Nat):Int):=by rw[wrap64_in _ (by omega) (by omega)];omega
    obtain⟨b2,hb2⟩:∃b2,b2=(k+1+1)* 20:=⟨_,rfl⟩
    rw[←hb2]at w1
    simp -implicitDefEqProofs only[↓reduceIte,go_sem,Nat.reduceLT,Nat.reduceEqDiff,reduceCtorEq,t1,t8,eq_true hbn]
    simp -implicitDefEqProofs only[go_sem,t0,t2,t7]
    refine ae.ok (eu H id ver hid g caps c ho hc P X Q Lk L1 hc3 hL1 a b n lP (by omega) hlen (by omega)) ?_
    simp -implicitDefEqProofs only[↓reduceIte,go_sem,Nat.reduceLT,Nat.reduceEqDiff,t6,t8,w1]
    refine⟨_,_,k+1,ak.refl _ _,⟨by omega,⟨L1,rfl,hst1,lL1,hso1⟩,?_⟩,by omega⟩
    rw[←hb,←hb2]
    simp -implicitDefEqProofs only[↓reduceIte,go_sem,Nat.reduceLT,Nat.reduceEqDiff,reduceCtorEq,t0,t1,t2,t6]
   ·simp -implicitDefEqProofs only[↓reduceIte,go_sem,Nat.reduceLT,Nat.reduceEqDiff,reduceCtorEq,t1,t8,eq_false hbn]
    refine⟨⟨Lk,rfl,hst,hlen,k,by omega,by omega,hso,?_⟩,?_⟩
    ·rw[←ha];simp -implicitDefEqProofs only[go_sem,t7]
    ·simp -implicitDefEqProofs only[go_sem,t0,t2,t6]
 rintro s H' ⟨⟨Lk,rfl,hst,hlen,k,hk1,hk2,hso,t7⟩,t0,t1,t2,t6⟩
 obtain⟨a,ha⟩:∃a,a=k* 20:=⟨_,rfl⟩
 rw[←ha]at t7
 have hc3:Lk=Lk.take a++Lk.drop a++[]:=by simp
 obtain⟨L1,hL1⟩:∃L1,L1=Lk.take a++St.aJ (aV c) (Lk.drop a)++[]:=⟨_,rfl⟩
 have lP:(Lk.take a).length=a:=by rw[List.length_take];omega
 have lX:(Lk.drop a).length=n-a:=by rw[List.length_drop];omega
 have lL1:L1.length=n:=by rw[hL1];simp only[List.length_append,St.aW,lP,lX,List.length_nil];omega
 have hst1:St.bG (aV c) L1 L:=by
  refine St.bG.trans ?_ hst
  rw[hL1]
  have:=St.ef ho (Lk.take a) (Lk.drop a) []
  rwa[←hc3]at this
 have hb1:∀j,St.aw (aV c) (St.e9 20 j L1):=by
  intro j
  rcases Nat.lt_or_ge j (k+1)with h|h
  ·rw[hL1]
   exact St.fl ho (by omega) (by rw[←hc3];exact hso) (.inr ⟨by omega,rfl⟩) j h
  ·have:=Nat.mul_le_mul_right 20 h
   rw[St.oh (by omega)]
   exact List.Pairwise.nil
 simp -implicitDefEqProofs only[↓reduceIte,go_sem,Nat.reduceLT,Nat.reduceEqDiff,t0,t1,t2,t7]
 refine ae.ok (eu H id ver hid g caps c ho hc _ _ _ Lk L1 hc3 hL1 a n n lP (by omega) hlen (by omega)) ?_
 clear hc3 hL1 lP lX hst hso hlen
 simp -implicitDefEqProofs only[go_sem]
 refine bu _ _ _ _ (fun(z:Nat) s H'=>20≤z∧z≤2* n+20∧(∃Lk,H'=aH H id ver Lk∧St.bG (aV c) Lk L∧Lk.length=n∧∀j,St.aw (aV c) (St.e9 z j Lk))∧s 0= .sl id ver 0 n∧s 1=iA n∧s 2= .fn g caps∧s 6=iA z) (fun z=>n-z) 20 (ak.refl _ _) ?_ ?_
 ·refine⟨Nat.le_refl _,by omega,⟨L1,rfl,hst1,lL1,hb1⟩,?_⟩
  simp -implicitDefEqProofs only[↓reduceIte,go_sem,Nat.reduceEqDiff,reduceCtorEq,t0,t1,t2,t6]
 clear hb1 hst1 lL1 t0 t1 t2 t6 t7 hk1 hk2 ha
 rintro z s H' ⟨hz1,hz2,⟨Lk,rfl,hst,hlen,hbl⟩,t0,t1,t2,t6⟩
 by_cases hzn:z<n
 ·have w1:IntKind.i64.wrap (2* (z:Int))=((2* z:Nat):Int):=by rw[wrap64_in _ (by omega) (by omega)];omega
  have w1':IntKind.i64.wrap ((z:Int)* 2)=((2* z:Nat):Int):=by rw[wrap64_in _ (by omega) (by omega)];omega
  obtain⟨y,hy⟩:∃y,y=2* z:=⟨_,rfl⟩
  rw[←hy]at w1 w1'
  simp -implicitDefEqProofs only[↓reduceIte,go_sem,Nat.reduceLT,Nat.reduceEqDiff,t1,t6,eq_true hzn,w1]
  refine gp (fun s H'=>(∃Lk,H'=aH H id ver Lk∧St.bG (aV c) Lk L∧Lk.length=n∧∃k a,a=k* y∧a=2* k* z∧a≤n∧n<a+y∧(∀j,j<k→St.aw (aV c) (St.e9 y j Lk))∧(∀j,2* k≤j→St.aw (aV c) (St.e9 z j Lk))∧s 7=iA a)∧s 0= .sl id ver 0 n∧s 1=iA n∧s 2= .fn g caps∧s 6=iA z) rfl ?_ ?_
  ·refine bu _ _ _ _ (fun(k:Nat) s H'=>(∃a,a=k* y∧a=2* k* z∧a≤n∧s 7=iA a∧s 8=iA ((a+y:Nat):Int))∧(∃Lk,H'=aH H id ver Lk∧St.bG (aV c) Lk L∧Lk.length=n∧(∀j,j<k→St.aw (aV c) (St.e9 y j Lk))∧(∀j,2* k≤j→St.aw (aV c) (St.e9 z j Lk)))∧s 0= .sl id ver 0 n∧s 1=iA n∧s 2= .fn g caps∧s 6=iA z) (fun k=>n+1-k* y) 0 (ak.refl _ _) ?_ ?_
   ·refine⟨⟨0,by omega,by omega,by omega,?_⟩,⟨Lk,rfl,hst,hlen,fun j hj=>by omega,fun j _=>hbl j⟩,?_⟩
    ·simp -implicitDefEqProofs only[↓reduceIte,go_sem,Nat.reduceLT,Nat.reduceEqDiff,Nat.zero_add]
    ·simp -implicitDefEqProofs only[↓reduceIte,go_sem,Nat.reduceEqDiff,reduceCtorEq,t0,t1,t2,t6]
   clear hst hlen hbl Lk t0 t1 t2 t6
   rintro k s H' ⟨⟨a,ha,ha2,han,t7,t8⟩,⟨Lk,rfl,hst,hlen,hso,hso2⟩,t0,t1,t2,t6⟩
   obtain⟨b,hb⟩:∃b,b=a+y:=⟨_,rfl⟩
   rw[←hb]at t8
   have hk1:(k+1)* y=a+y:=by rw[Nat.add_mul,←ha,Nat.one_mul]
   have hk2:2* (k+1)* z=a+2* z:=by rw[Nat.mul_add,Nat.add_mul,←ha2]
   have hk3:(2* k+1)* z=a+z:=by rw[Nat.add_mul,←ha2,Nat.one_mul]
   by_cases hbn:b≤n
   ·obtain⟨P,hP⟩:∃P,P=Lk.take a:=⟨_,rfl⟩
    obtain⟨X,hX⟩:∃X,X=(Lk.drop a).take z:=⟨_,rfl⟩
    obtain⟨Y,hY⟩:∃Y,Y=(Lk.drop (a+z)).take z:=⟨_,rfl⟩
    obtain⟨Q,hQ⟩:∃Q,Q=Lk.drop (a+z+z):=⟨_,rfl⟩
    have hc4:Lk=P++X++Y++Q:=by rw[hP,hX,hY,hQ,St.D5]
    have hc5:Lk=P++(X++Y)++Q:=by rw[hc4];simp
    have lP:P.length=a:=by rw[hP,List.length_take];omega
    have lX:X.length=z:=by rw[hX,List.length_take,List.length_drop];omega
    have lY:Y.length=z:=by rw[hY,List.length_take,List.length_drop];omega
    have lXY:(X++Y).length=y:=by rw[List.length_append];omega
    have sX:St.aw (aV c) X:=by have:=hso2 (2* k) (Nat.le_refl _);rw[St.e9,←ha2,←hX]at this;exact this
    have sY:St.aw (aV c) Y:=by have:=hso2 (2* k+1) (by omega);rw[St.e9,hk3,←hY]at this;exact this
    obtain⟨L1,hL1⟩:∃L1,L1=P++St.aJ (aV c) (X++Y)++Q:=⟨_,rfl⟩
    have lL1:L1.length=n:=by rw[hL1,←hlen,hc5];simp[St.aW];try omega
    have hst1:St.bG (aV c) L1 L:=by
     refine St.bG.trans ?_ hst
     rw[hL1,hc5];exact St.ef ho P (X++Y) Q
    have hso1:∀j,j<k+1→St.aw (aV c) (St.e9 y j L1):=by
     rw[hL1];exact St.fl ho (by omega) (by rw[←hc5];exact hso) (.inl lXY)
    have hso3:∀j,2* (k+1)≤j→St.aw (aV c) (St.e9 z j L1):=fun j hj=>by
     have h1:=Nat.mul_le_mul_right z hj
     rw[hL1,St.ow (X':=X++Y) (St.aW _) (by rw[St.aW,lXY,lP];omega),←hc5]
     exact hso2 j (by omega)
    clear hP hX hY hQ hst hso hso2
    obtain⟨m,hm⟩:∃m,m=a+z:=⟨_,rfl⟩
    obtain⟨b2,hb2⟩:∃b2,b2=b+y:=⟨_,rfl⟩
    have w2:IntKind.i64.wrap ((a:Int)+(z:Int))=(m:Int):=by rw[wrap64_in _ (by omega) (by omega)];omega
    have w3:IntKind.i64.wrap ((b:Int)+(y:Int))=(b2:Int):=by rw[wrap64_in _ (by omega) (by omega)];omega
    simp -implicitDefEqProofs only[↓reduceIte,go_sem,Nat.reduceLT,Nat.reduceEqDiff,reduceCtorEq,t1,t8,eq_true hbn]
    simp -implicitDefEqProofs only[↓reduceIte,go_sem,Nat.reduceLT,Nat.reduceEqDiff,t0,t2,t6,t7,t8,w2]
    refine ae.ok (dQ H id ver hid g caps c ho hc n (by omega) _ P X Y Q Lk L1 a m b (Nat.le_refl _) hc4 hL1 lP (by omega) (by omega) (by omega) (by omega) sX sY hlen) ?_
    simp -implicitDefEqProofs only[↓reduceIte,go_sem,Nat.reduceLT,Nat.reduceEqDiff,t6,t8,w1,w3]
    refine⟨_,_,k+1,ak.refl _ _,⟨⟨b,by omega,by omega,hbn,?_⟩,⟨L1,rfl,hst1,lL1,hso1,hso3⟩,?_⟩,by omega⟩
    ·simp -implicitDefEqProofs only[↓reduceIte,go_sem,Nat.reduceLT,Nat.reduceEqDiff,show((b:Int)+(y:Int))=(b2:Int) by omega]
    ·simp -implicitDefEqProofs only[↓reduceIte,go_sem,Nat.reduceEqDiff,reduceCtorEq,t0,t1,t2,t6]
   ·simp -implicitDefEqProofs only[↓reduceIte,go_sem,Nat.reduceLT,Nat.reduceEqDiff,reduceCtorEq,t1,t8,eq_false hbn]
    refine⟨⟨Lk,rfl,hst,hlen,k,a,ha,ha2,han,by omega,hso,hso2,?_⟩,?_⟩
    ·simp -implicitDefEqProofs only[go_sem,t7]
    ·simp -implicitDefEqProofs only[go_sem,t0,t2,t6]
  clear hst hlen hbl Lk t0 t1 t2 t6
  rintro s H' ⟨⟨Lk,rfl,hst,hlen,k,a,ha,ha2,han,hna,hso,hso2,t7⟩,t0,t1,t2,t6⟩
  have hk3:(2* k+1)* z=a+z:=by rw[Nat.add_mul,←ha2,Nat.one_mul]
  have hk1:(k+1)* y=a+y:=by rw[Nat.add_mul,←ha,Nat.one_mul]
  obtain⟨m,hm⟩:∃m,m=a+z:=⟨_,rfl⟩
  have w2:IntKind.i64.wrap ((a:Int)+(z:Int))=(m:Int):=by rw[wrap64_in _ (by omega) (by omega)];omega
  have all:∀L1:List (List al),L1.length=n→(∀j,j<k+1→St.aw (aV c) (St.e9 y j L1))→∀j,St.aw (aV c) (St.e9 y j L1):=fun L1 hl h j=>by
   rcases Nat.lt_or_ge j (k+1)with h1|h1
   ·exact h j h1
   ·have:=Nat.mul_le_mul_right y h1
    rw[St.oh (by omega)]
    exact List.Pairwise.nil
  by_cases hmn:m<n
  ·obtain⟨P,hP⟩:∃P,P=Lk.take a:=⟨_,rfl⟩
   obtain⟨X,hX⟩:∃X,X=(Lk.drop a).take z:=⟨_,rfl⟩
   obtain⟨Y,hY⟩:∃Y,Y=(Lk.drop (a+z)).take z:=⟨_,rfl⟩
   have hQ:Lk.drop (a+z+z)=[]:=List.drop_of_length_le (by omega)
   have hc4:Lk=P++X++Y++[]:=by rw[hP,hX,hY,←hQ,St.D5]
   have hc5:Lk=P++(X++Y)++[]:=by rw[hc4];simp
   have lP:P.length=a:=by rw[hP,List.length_take];omega
   have lX:X.length=z:=by rw[hX,List.length_take,List.length_drop];omega
   have lY:Y.length=n-m:=by rw[hY,List.length_take,List.length_drop];omega
   have lXY:(X++Y).length≤y:=by rw[List.length_append];omega
   have sX:St.aw (aV c) X:=by have:=hso2 (2* k) (Nat.le_refl _);rw[St.e9,←ha2,←hX]at this;exact this
   have sY:St.aw (aV c) Y:=by have:=hso2 (2* k+1) (by omega);rw[St.e9,hk3,←hY]at this;exact this
   obtain⟨L1,hL1⟩:∃L1,L1=P++St.aJ (aV c) (X++Y)++[]:=⟨_,rfl⟩
   have lL1:L1.length=n:=by rw[hL1,←hlen,hc5];simp[St.aW];try omega
   have hst1:St.bG (aV c) L1 L:=by
    refine St.bG.trans ?_ hst
    rw[hL1]
    have:=St.ef ho P (X++Y) []
    rwa[←hc5]at this
   have hso1:∀j,j<k+1→St.aw (aV c) (St.e9 y j L1):=by
    rw[hL1];exact St.fl ho (by omega) (by rw[←hc5];exact hso) (.inr ⟨lXY,rfl⟩)
   clear hP hX hY hQ hst hso hso2
   simp -implicitDefEqProofs only[↓reduceIte,go_sem,Nat.reduceLT,Nat.reduceEqDiff,reduceCtorEq,t1,t6,t7,w2,eq_true hmn]
   simp -implicitDefEqProofs only[go_sem,t0,t2]
   refine ae.ok (dQ H id ver hid g caps c ho hc n (by omega) _ P X Y [] Lk L1 a m n (Nat.le_refl _) hc4 hL1 lP (by omega) (by omega) (by omega) (by omega) sX sY hlen) ?_
   simp -implicitDefEqProofs only[↓reduceIte,go_sem,Nat.reduceLT,Nat.reduceEqDiff,t6,w1']
   refine⟨_,_,y,ak.refl _ _,⟨by omega,by omega,⟨L1,rfl,hst1,lL1,all L1 lL1 hso1⟩,?_⟩,by omega⟩
   simp -implicitDefEqProofs only[↓reduceIte,go_sem,Nat.reduceLT,Nat.reduceEqDiff,reduceCtorEq,t0,t1,t2]
  ·have hso1:∀j,j<k+1→St.aw (aV c) (St.e9 y j Lk):=fun j hj=>by
    rcases Nat.lt_or_ge j k with h|h
    ·exact hso j h
    ·obtain rfl:j=k:=by omega
     have h1:=hso2 (2* j) (Nat.le_refl _)
     unfold St.e9 at h1⊢
     rw[←ha2,List.take_of_length_le (by rw[List.length_drop];omega)]at h1
     rw[←ha,List.take_of_length_le (by rw[List.length_drop];omega)]
     exact h1
   simp -implicitDefEqProofs only[↓reduceIte,go_sem,Nat.reduceLT,Nat.reduceEqDiff,t1,t6,t7,w2,eq_false hmn,w1']
   refine⟨_,_,y,ak.refl _ _,⟨by omega,by omega,⟨Lk,rfl,hst,hlen,all Lk hlen hso1⟩,?_⟩,by omega⟩
   simp -implicitDefEqProofs only[↓reduceIte,go_sem,Nat.reduceLT,Nat.reduceEqDiff,reduceCtorEq,t0,t1,t2]
 ·simp -implicitDefEqProofs only[↓reduceIte,go_sem,Nat.reduceLT,Nat.reduceEqDiff,t1,t6,eq_false hzn]
  have h0:=hbl 0
  unfold St.e9 at h0
  rw[Nat.zero_mul,List.drop_zero,List.take_of_length_le (by omega)]at h0
  rw[←hE1,St.j3 ho h0 hst]
  exact⟨_,ak.refl _ _,rfl⟩
theorem nh(H:aa)(id ver:Nat)(hid:id<H.length)(g:FuncId)(caps:List AV)(c:(List al)→(List al)→Int)(ho:St.Ord (aV c))(hc:ek g caps c H id)(n:Nat)(hbig:n≤100000000000)(L:List (List al))(hn:L.length=n):
  ag Tryz.prog 119 [.sl id ver 0 n,.fn g caps] (aH H id ver L) (.ok (.a7 [])) (aH H id ver (St.aJ (aV c) L)):=by
 have gh:=cx hid ver L
 have hs:=j4 H id ver hid g caps c ho hc n hbig L hn
 generalize aH H id ver L=E0 at*
 refine ag.ai (hint:=(fun _=>false)) Tryz.func119 (by kernel_rfl) rfl [] (by kernel_rfl) (by decide) (by simp[Tryz.ntmps119]) ?_
 rw[Tryz.ntmps119]
 simp -implicitDefEqProofs only[↓reduceIte,go_sem,Nat.reduceLT,Nat.reduceEqDiff,reduceCtorEq,gh]
 refine ae.ok hs ?_
 simp -implicitDefEqProofs only[go_sem]
 exact⟨_,ak.refl _ _,rfl⟩
end SR
end Go.Proofs.YtggohfhfocgilaaGreat
namespace Go.Proofs.YtggohfhfocgilaaGreat
open Go.Proofs.YtggohfhfocgilaaGreatAw Go.RowKit
namespace SR
theorem Gj(l:List (List al)):(∀c∈l.map de,c.length=1)=True:=eq_true fun c hc=>by obtain⟨a,_,rfl⟩:=List.mem_map.1 hc;rfl
theorem wO(K:Value→Prop):cw Tryz.prog .eql 22 (.slice none 0 0) (.slice none 0 0) K=K (.bool true):=qP (e:=136) (by kernel_rfl) K
theorem c4(H:aa):ag Tryz.prog 118 [.d (.v (.slice none 0 0))] H (.ok (.d (.v (.slice none 0 0)))) H:=by
 refine ag.ai (hint:=(fun _=>false)) Tryz.func118 (by kernel_rfl) rfl [2] (by kernel_rfl) (by decide) (by simp[Tryz.ntmps118]) ?_
 rw[Tryz.ntmps118]
 simp -implicitDefEqProofs only[↓reduceIte,go_sem,Nat.reduceLT,reduceCtorEq,wO]
 refine an.aI ?_
 simp -implicitDefEqProofs only[↓reduceIte,go_sem,Nat.reduceLT]
theorem dF(l:List (List al))(nn:Bool)(H:aa)(h0:nn=true∨l≠[])(hl:l.length≤1000000000000):ag Tryz.prog 118 [.d (.list nn (l.map de))] H (.ok (.sl H.length 1 0 l.length)) (H++[.arr 136 1 1 (l.map de)]):=by
 have e1:(nn|| !(l.map de).isEmpty)=true:=by
  rcases h0 with h|h
  ·simp[h]
  ·cases l with
   |nil=>exact absurd rfl h
   |cons a l=>simp
 refine ag.ai (hint:=(fun _=>false)) Tryz.func118 (by kernel_rfl) rfl [2] (by kernel_rfl) (by decide) (by simp[Tryz.ntmps118]) ?_
 rw[Tryz.ntmps118]
 simp -implicitDefEqProofs only[↓reduceIte,go_sem,Nat.reduceLT,Nat.reduceEqDiff,reduceCtorEq,e1,Gj]
 refine⟨by omega,by omega,_,ak.refl _ _,?_⟩
 simp -implicitDefEqProofs only[↓reduceIte,go_sem,Nat.reduceLT]
theorem dX(l:List (List al))(nn:Bool)(H:aa)(hl:l.length≤1000000000000):ag Tryz.prog 118 [.d (.list nn (l.map de))] H (.ok (.sl H.length 1 0 l.length)) (H++[.arr 136 1 1 (l.map de)]):=by
 cases nn with
 |true=>exact dF l true H (.inl rfl) hl
 |false=>
  cases l with
  |cons a l=>exact dF _ false H (.inr (by simp)) hl
  |nil=>
   refine ag.oE [] [] ?_ (dF [] true H (.inl rfl) (by simp))
   have:=(c4 H).EJ (ak.y6 (sZ _) H 0 136 1 1 (by decide) rfl)
   simpa[sZ]using this
end SR
end Go.Proofs.YtggohfhfocgilaaGreat
namespace Go.Proofs.YtggohfhfocgilaaGreat
open Go.Proofs.YtggohfhfocgilaaGreatAw Go.RowKit
namespace SV
theorem Gj(l:List al):(∀c∈l.map al.enc,c.length=3)=True:=eq_true fun c hc=>by obtain⟨a,_,rfl⟩:=List.mem_map.1 hc;rfl
theorem wO(K:Value→Prop):cw Tryz.prog .eql 136 (.slice none 0 0) (.slice none 0 0) K=K (.bool true):=qP (e:=100) (by kernel_rfl) K
theorem c4(H:aa):ag Tryz.prog 121 [.d (.v (.slice none 0 0))] H (.ok (.d (.v (.slice none 0 0)))) H:=by
 refine ag.ai (hint:=(fun _=>false)) Tryz.func121 (by kernel_rfl) rfl [2] (by kernel_rfl) (by decide) (by simp[Tryz.ntmps121]) ?_
 rw[Tryz.ntmps121]
 simp -implicitDefEqProofs only[↓reduceIte,go_sem,Nat.reduceLT,reduceCtorEq,wO]
 refine an.aI ?_
 simp -implicitDefEqProofs only[↓reduceIte,go_sem,Nat.reduceLT]
theorem dF(l:List al)(nn:Bool)(H:aa)(h0:nn=true∨l≠[])(hl:l.length≤1000000000000):ag Tryz.prog 121 [.d (.list nn (l.map al.enc))] H (.ok (.sl H.length 1 0 l.length)) (H++[.arr 100 3 1 (l.map al.enc)]):=by
 have e1:(nn|| !(l.map al.enc).isEmpty)=true:=by
  rcases h0 with h|h
  ·simp[h]
  ·cases l with
   |nil=>exact absurd rfl h
   |cons a l=>simp
 refine ag.ai (hint:=(fun _=>false)) Tryz.func121 (by kernel_rfl) rfl [2] (by kernel_rfl) (by decide) (by simp[Tryz.ntmps121]) ?_
 rw[Tryz.ntmps121]
 simp -implicitDefEqProofs only[↓reduceIte,go_sem,Nat.reduceAdd,Nat.reduceLT,Nat.reduceEqDiff,reduceCtorEq,e1,Gj]
 refine⟨by omega,by omega,_,ak.refl _ _,?_⟩
 simp -implicitDefEqProofs only[↓reduceIte,go_sem,Nat.reduceLT]
theorem dX(l:List al)(nn:Bool)(H:aa)(hl:l.length≤1000000000000):ag Tryz.prog 121 [.d (.list nn (l.map al.enc))] H (.ok (.sl H.length 1 0 l.length)) (H++[.arr 100 3 1 (l.map al.enc)]):=by
 cases nn with
 |true=>exact dF l true H (.inl rfl) hl
 |false=>
  cases l with
  |cons a l=>exact dF _ false H (.inr (by simp)) hl
  |nil=>
   refine ag.oE [] [] ?_ (dF [] true H (.inl rfl) (by simp))
   have:=(c4 H).EJ (ak.y6 (sZ _) H 0 100 3 1 (by decide) rfl)
   simpa[sZ]using this
end SV
end Go.Proofs.YtggohfhfocgilaaGreat
namespace Go.Proofs.YtggohfhfocgilaaGreat
open Go.Proofs.YtggohfhfocgilaaGreatAw Go.RowKit
structure lR {α:Type} (c:α→α→Int):Prop where
 gj:∀x y,c x y<0↔0<c y x
 ntrans:∀x y z,c x z<0→c x y<0∨c y z<0
def tB{α:Type}(c:α→α→Int)(x y:α):Bool:=decide (c x y<0)
theorem lR.ord{α:Type}{c:α→α→Int}(h:lR c):St.Ord (tB c)where
 asym x y hx:=by
  simp only[tB,decide_eq_true_eq,decide_eq_false_iff_not]at hx⊢
  have:=(h.gj x y).1 hx
  omega
 ntrans x y z hx:=by
  simp only[tB,decide_eq_true_eq]at hx⊢
  exact h.ntrans x y z hx
theorem lR.zero{α:Type}{c:α→α→Int}(h:lR c)(x y:α):c x y=0↔c y x=0:=by
 have h1:=h.gj x y
 have h2:=h.gj y x
 omega
theorem lR.self{α:Type}{c:α→α→Int}(h:lR c)(x:α):c x x=0:=by
 have h1:=h.gj x x
 omega
theorem lR.le_trans{α:Type}{c:α→α→Int}(h:lR c){x y z:α}(h1:c x y≤0)(h2:c y z≤0):c x z≤0:=by
 have a1:=h.gj y x
 have a2:=h.gj z y
 have a3:=h.gj z x
 have:=h.ntrans z y x
 omega
theorem lR.fY{α:Type}{c:α→α→Int}(h:lR c){x y z:α}(h1:c x y=0)(h2:c y z=0):c x z=0:=by
 have a1:=h.le_trans (x:=x) (y:=y) (z:=z) (by omega) (by omega)
 have a2:=h.le_trans (x:=z) (y:=y) (z:=x) (by have:=(h.zero y z).1 h2;omega) (by have:=(h.zero x y).1 h1;omega)
 have a3:=h.gj x z
 have a4:=h.gj z x
 omega
theorem lR.lex{α:Type}{c d e:α→α→Int}(h:lR c)(h1:∀x y,c x y≠0→e x y=c x y)(h2:∀x y,c x y=0→e x y=d x y)(da:∀x y,c x y=0→(d x y<0↔0<d y x))(dn:∀x y z,c x y=0→c y z=0→d x z<0→d x y<0∨d y z<0):lR e where
 gj x y:=by
  by_cases hc:c x y=0
  ·rw[h2 x y hc,h2 y x ((h.zero x y).1 hc)]
   exact da x y hc
  ·rw[h1 x y hc,h1 y x fun h0=>hc ((h.zero x y).2 h0)]
   exact h.gj x y
 ntrans x y z hx:=by
  by_cases hxy:c x y=0
  ·by_cases hyz:c y z=0
   ·have hxz:=h.fY hxy hyz
    rw[h2 x z hxz]at hx
    rw[h2 x y hxy,h2 y z hyz]
    exact dn x y z hxy hyz hx
   ·have hxz:c x z≠0:=fun h0=>hyz (h.fY ((h.zero x y).1 hxy) h0)
    rw[h1 x z hxz]at hx
    rw[h1 y z hyz]
    rcases h.ntrans x y z hx with h3|h3
    ·omega
    ·exact .inr h3
  ·by_cases hyz:c y z=0
   ·have hxz:c x z≠0:=fun h0=>hxy (h.fY h0 ((h.zero y z).1 hyz))
    rw[h1 x z hxz]at hx
    rw[h1 x y hxy]
    rcases h.ntrans x y z hx with h3|h3
    ·exact .inl h3
    ·omega
   ·rw[h1 x y hxy,h1 y z hyz]
    by_cases hxz:c x z=0
    ·have a1:=h.gj x y
     have a2:=h.gj y x
     have a3:=h.gj y z
     have a4:=h.gj z y
     have n1:=h.ntrans y x z
     have n2:=h.ntrans y z x
     have n3:=h.ntrans z x y
     have z1:=(h.zero x z).1 hxz
     omega
    ·rw[h1 x z hxz]at hx
     exact h.ntrans x y z hx
theorem CQ{α:Type}{lt:α→α→Bool}{c:α→α→Int}(ho:St.Ord lt)(h1:∀x y,lt x y=true→c x y<0)(h2:∀x y,lt x y=false→lt y x=true→0<c x y)(h3:∀x y,lt x y=false→lt y x=false→c x y=0):lR c where
 gj x y:=by
  cases hx:lt x y with
  |true=>have:=h1 x y hx;have:=h2 y x (ho.asym x y hx) hx;omega
  |false=>
   cases hy:lt y x with
   |true=>have:=h1 y x hy;have:=h2 x y hx hy;omega
   |false=>have:=h3 x y hx hy;have:=h3 y x hy hx;omega
 ntrans x y z hx:=by
  have hl:lt x z=true:=by
   cases e:lt x z with
   |true=>rfl
   |false=>
    cases e2:lt z x with
    |true=>have:=h2 x z e e2;omega
    |false=>have:=h3 x z e e2;omega
  rcases ho.ntrans x y z hl with h|h
  ·exact .inl (h1 x y h)
  ·exact .inr (h1 y z h)
theorem pA:lR ff where
 gj x y:=by
  unfold ff dy
  by_cases h1:x<y<;>by_cases h2:y<x<;>simp[h1,h2]<;>omega
 ntrans x y z:=by
  unfold ff dy
  by_cases h1:x<y<;>by_cases h2:y<x<;>by_cases h3:y<z<;>by_cases h4:z<y<;>by_cases h5:x<z<;>by_cases h6:z<x<;>simp[h1,h2,h3,h4,h5,h6]<;>omega
theorem ku{a b:Int}:ff a b=0↔a=b:=by
 unfold ff dy
 by_cases h1:a<b<;>by_cases h2:b<a<;>simp[h1,h2]<;>omega
theorem EY(a b:Nat):yt a b=ff (gT a) (gT b):=by
 unfold yt ff dy
 simp[Int.ofNat_lt]
theorem kP:∀l:List UInt8,Op.bytesLess l l=false
 |[]=>rfl
 |a::l=>by simp[Op.bytesLess,kP l]
theorem jP:∀l m:List UInt8,Op.bytesLess l m=true→Op.bytesLess m l=false
 |_,[],h=>by simp[Op.bytesLess]at h
 |[],_::_,_=>rfl
 |a::l,b::m,h=>by
  simp only[Op.bytesLess,Bool.or_eq_true,decide_eq_true_eq,Bool.and_eq_true,beq_iff_eq]at h
  simp only[Op.bytesLess,Bool.or_eq_false_iff,decide_eq_false_iff_not,Bool.and_eq_false_iff,beq_eq_false_iff_ne]
  rcases h with h|⟨rfl,h⟩
  ·exact⟨fun h2=>UInt8.lt_asymm h h2,.inl fun e=>by subst e;exact UInt8.lt_irrefl _ h⟩
  ·exact⟨UInt8.lt_irrefl _,.inr (jP l m h)⟩
theorem gQ:∀l m:List UInt8,Op.bytesLess l m=false→Op.bytesLess m l=false→l=m
 |[],[],_,_=>rfl
 |[],_::_,h,_=>by simp[Op.bytesLess]at h
 |_::_,[],_,h=>by simp[Op.bytesLess]at h
 |a::l,b::m,h1,h2=>by
  simp only[Op.bytesLess,Bool.or_eq_false_iff,decide_eq_false_iff_not,Bool.and_eq_false_iff,beq_eq_false_iff_ne]at h1 h2
  have e:a=b:=UInt8.le_antisymm (UInt8.not_lt.1 h2.1) (UInt8.not_lt.1 h1.1)
  subst e
  rcases h1.2 with h|h
  ·exact absurd rfl h
  ·rcases h2.2 with g|g
   ·exact absurd rfl g
   ·rw[gQ l m h g]
theorem jv:∀l m n:List UInt8,Op.bytesLess l m=true→Op.bytesLess m n=true→Op.bytesLess l n=true
 |_,_,[],_,h=>by simp[Op.bytesLess]at h
 |[],_,_::_,_,_=>rfl
 |_::_,[],_::_,h,_=>by simp[Op.bytesLess]at h
 |a::l,b::m,c::n,h1,h2=>by
  simp only[Op.bytesLess,Bool.or_eq_true,decide_eq_true_eq,Bool.and_eq_true,beq_iff_eq]at h1 h2⊢
  rcases h1 with h1|⟨rfl,h1⟩
  ·rcases h2 with h2|⟨rfl,h2⟩
   ·exact .inl (UInt8.lt_trans h1 h2)
   ·exact .inl h1
  ·rcases h2 with h2|⟨rfl,h2⟩
   ·exact .inl h2
   ·exact .inr ⟨rfl,jv l m n h1 h2⟩
theorem Bn:St.Ord nx where
 asym x y h:=jP _ _ h
 ntrans x y z h:=by
  unfold nx at*
  cases h1:Op.bytesLess x.toList y.toList with
  |true=>exact .inl rfl
  |false=>
   right
   cases h2:Op.bytesLess y.toList x.toList with
   |true=>exact jv _ _ _ h2 h
   |false=>rw[←gQ _ _ h1 h2];exact h
theorem C0:lR mU:=by
 refine CQ Bn (fun x y h=>?_) (fun x y h g=>?_) fun x y h g=>?_
 ·unfold mU dy;simp[h]
 ·unfold mU dy
  have:(x.toList==y.toList)=false:=by
   rw[beq_eq_false_iff_ne]
   intro e
   unfold nx at g
   rw[e,kP]at g;cases g
  simp[h,this]
 ·unfold mU dy
  have e:=gQ _ _ h g
  simp[h,e]
def AY(v:al):Int:=gT (wh v.i)
theorem lR.vg{α β:Type}{c:α→α→Int}(h:lR c)(f:β→α):lR (fun x y=>c (f x) (f y)):=⟨fun x y=>h.gj _ _,fun x y z=>h.ntrans _ _ _⟩
def nZ(k:Int)(a b:al):Int:=if k=1 then ff a.i b.i else if k=2 then ff (AY a) (AY b)else if k=3 then mU a.s b.s else 0
theorem yZ(a b:al):aO a b=if ff a.kind b.kind≠0 then ff a.kind b.kind else nZ a.kind a b:=by
 unfold aO nZ
 simp only[EY,←show ∀v:al,AY v=gT (wh v.i)from fun _=>rfl]
 by_cases h:a.kind=b.kind
 ·simp[h,ku]
 ·simp[h,ku]
theorem uw{α:Type}:lR (fun _ _:α=>(0:Int)):=⟨fun _ _=>by simp,fun _ _ _ h=>by simp at h⟩
theorem uB(k:Int):lR (nZ k):=by
 by_cases k1:k=1
 ·have:nZ k=fun a b=>ff a.i b.i:=by funext a b;unfold nZ;rw[if_pos k1]
  rw[this];exact pA.vg al.i
 ·by_cases k2:k=2
  ·have:nZ k=fun a b=>ff (AY a) (AY b):=by funext a b;unfold nZ;rw[if_neg k1,if_pos k2]
   rw[this];exact pA.vg AY
  ·by_cases k3:k=3
   ·have:nZ k=fun a b=>mU a.s b.s:=by funext a b;unfold nZ;rw[if_neg k1,if_neg k2,if_pos k3]
    rw[this];exact C0.vg al.s
   ·have:nZ k=fun a b=>0:=by funext a b;unfold nZ;rw[if_neg k1,if_neg k2,if_neg k3]
    rw[this];exact uw
theorem eE:lR aO:=by
 refine lR.lex (c:=fun a b=>ff a.kind b.kind) (d:=fun a b=>nZ a.kind a b) (pA.vg al.kind) (fun x y h=>by rw[yZ,if_pos h]) (fun x y h=>by rw[yZ,if_neg (by simpa using h)]) (fun x y h=>?_) fun x y z h1 h2=>?_
 ·have h:=ku.1 h
  rw[h]
  exact(uB _).gj x y
 ·have h1:=ku.1 h1
  rw[h1]
  exact(uB _).ntrans x y z
def kA:List Int→List al→List al→Int
 |[],_,_=>0
 |c::cs,a,b=>if aO (iu a c) (iu b c)≠0 then aO (iu a c) (iu b c)else kA cs a b
theorem kb:∀cs:List Int,lR (kA cs)
 |[]=>by
  have:kA []=fun _ _=>0:=rfl
  rw[this];exact uw
 |c::cs=>by
  have ih:=kb cs
  refine lR.lex (c:=fun a b=>aO (iu a c) (iu b c)) (d:=kA cs) (eE.vg fun a=>iu a c) (fun x y h=>by simp only[kA];rw[if_pos h]) (fun x y h=>by simp only[kA];rw[if_neg (by simpa using h)]) (fun x y _=>ih.gj x y) fun x y z _ _=>ih.ntrans x y z
theorem ua(a b:List al):∀{cs:List Int} {k:Nat} (hk:k<cs.length) (h:∀i (hi:i<k) (hl:i<cs.length),aO (iu a cs[i]) (iu b cs[i])=0) (hx:aO (iu a cs[k]) (iu b cs[k])≠0),kA cs a b=aO (iu a cs[k]) (iu b cs[k])
 |[],k,hk,_,_=>by simp at hk
 |c::cs,0,hk,_,hx=>by simp only[List.getElem_cons_zero]at hx⊢;simp only[kA];rw[if_pos hx]
 |c::cs,k+1,hk,h,hx=>by
  have h0:=h 0 (by omega) (by simp)
  simp only[List.getElem_cons_zero]at h0
  simp only[List.getElem_cons_succ]at hx⊢
  simp only[kA,h0,ne_eq,not_true_eq_false,if_false]
  exact ua a b (by simpa using hk) (fun i hi hl=>by have:=h (i+1) (by omega) (by simpa using hl);simpa using this) hx
theorem rP(a b:List al):∀{cs:List Int} (h:∀i (hl:i<cs.length),aO (iu a cs[i]) (iu b cs[i])=0),kA cs a b=0
 |[],_=>rfl
 |c::cs,h=>by
  have h0:=h 0 (by simp)
  simp only[List.getElem_cons_zero]at h0
  simp only[kA,h0,ne_eq,not_true_eq_false,if_false]
  exact rP a b fun i hl=>by have:=h (i+1) (by simpa using hl);simpa using this
abbrev Bo(n:Bool)(l:List Int):ay:= .box 23 1 0 1 [.d (.list n (ints l))]
theorem wB(n:Bool)(l:List Int)(H:aa):ag Tryz.prog 120 [.d (.list n (ints l))] H (.ok (.fn 153 [.ptr H.length 0 0 0])) (H++[Bo n l]):=by
 refine ag.ai (hint:=(fun _=>false)) Tryz.func120 (by kernel_rfl) rfl [2] (by kernel_rfl) (by decide) (by simp[Tryz.ntmps120]) ?_
 rw[Tryz.ntmps120]
 simp -implicitDefEqProofs only[↓reduceIte,go_sem,Nat.reduceLT,Nat.reduceEqDiff]
 exact⟨_,ak.refl _ _,by simp -implicitDefEqProofs only[↓reduceIte,go_sem,Nat.reduceLT]⟩
theorem uQ(a b:List al)(n:Bool)(cs:List Int)(hl:cs.length≤1000000000000)(id:Nat)(H:aa)(hx:H[id]?=some (Bo n cs)):
  ag Tryz.prog 153 [.d (.list false (a.map al.enc)),.d (.list false (b.map al.enc)),.ptr id 0 0 0] H (.ok (iA (kA cs a b))) H:=by
 refine ag.ai (hint:=(fun _=>false)) Tryz.func153 (by kernel_rfl) rfl [5] (by kernel_rfl) (by decide) (by simp[Tryz.ntmps153]) ?_
 rw[Tryz.ntmps153]
 simp -implicitDefEqProofs only[↓reduceIte,go_sem,ab,Nat.reduceLT,Nat.reduceEqDiff,hx]
 refine aU (fun k s H'=>H'=H∧(∀i (hi:i<k) (hl:i<cs.length),aO (iu a cs[i]) (iu b cs[i])=0)∧s 0= .d (.list false (a.map al.enc))∧s 1= .d (.list false (b.map al.enc))∧s 9= .d (.list n (ints cs))∧s 10=iA cs.length∧s 11=iA k) cs.length (by omega) (ak.refl _ _) ?_ ?_ ?_
 ·refine⟨rfl,fun i hi=>by omega,?_⟩
  simp -implicitDefEqProofs only[↓reduceIte,go_sem,Nat.reduceLT,Nat.reduceEqDiff,reduceCtorEq,ao]
 ·rintro k s H' hk hw ⟨rfl,hp,t0,t1,t9,t10,t11⟩
  have hy:=bD cs k hk
  have hit:aO (iu a cs[k]) (iu b cs[k])≠0→kA cs a b=aO (iu a cs[k]) (iu b cs[k]):=fun h=>ua a b hk hp h
  have hpp:aO (iu a cs[k]) (iu b cs[k])=0→∀i (hi:i<k+1) (hl:i<cs.length),aO (iu a cs[i]) (iu b cs[i])=0:=fun h0 i hi hl'=>by
   rcases Nat.lt_or_ge i k with h|h
   ·exact hp i h hl'
   ·obtain rfl:i=k:=by omega
    exact h0
  generalize cs[k]=c at*
  simp -implicitDefEqProofs only[↓reduceIte,go_sem,Nat.reduceLT,Nat.reduceEqDiff,reduceCtorEq,t0,t9,t10,t11,hk,hy]
  refine ae.ok (y3 a c false _) ?_
  simp -implicitDefEqProofs only[↓reduceIte,go_sem,Nat.reduceLT,Nat.reduceEqDiff,t1]
  refine ae.ok (y3 b c false _) ?_
  simp -implicitDefEqProofs only[↓reduceIte,go_sem,Nat.reduceLT,Nat.reduceEqDiff]
  refine ae.ok (cF _ _ _) ?_
  generalize aO (iu a c) (iu b c)=e at*
  by_cases he:e=0
  ·simp -implicitDefEqProofs only[↓reduceIte,go_sem,Nat.reduceLT,Nat.reduceEqDiff,t11,he]
   refine cl.same ⟨rfl,hpp he,?_⟩
   simp -implicitDefEqProofs only[↓reduceIte,go_sem,Nat.reduceLT,Nat.reduceEqDiff,reduceCtorEq,t0,t1,t9,t10,hw]
  ·simp -implicitDefEqProofs only[↓reduceIte,go_sem,Nat.reduceLT,Nat.reduceEqDiff,he]
   refine an.aI ?_
   simp -implicitDefEqProofs only[↓reduceIte,go_sem,Nat.reduceLT,hit he]
 ·rintro s H' ⟨rfl,hp,t0,t1,t9,t10,t11⟩
  simp -implicitDefEqProofs only[↓reduceIte,go_sem,Nat.reduceLT,t10,t11]
  refine an.aI ?_
  simp -implicitDefEqProofs only[↓reduceIte,go_sem,Nat.reduceLT,rP a b fun i hi=>hp i hi hi]
theorem vW(l:List al)(nn:Bool)(H:aa)(hl:l.length≤1000000000000):ag Tryz.prog 121 [.d (.list nn (l.map al.enc))] H (.ok (.d (.list false (l.map al.enc)))) H:=by
 have h:=(SV.dX l nn H hl).drop
 rwa[y1 _ _ _ _ _ _ (by simp)]at h
def oG(R:List (List al))(cs:List Int):List (List al):=St.aJ (SR.aV (kA cs)) R
theorem E7(R:List (List al))(cs:List Int)(n1 n2:Bool)(H:aa)(hR:R.length≤1000000000)(hr:∀r∈R,r.length≤1000000000)(hk:cs.length≤1000000000000):
  ag Tryz.prog 74 [.d (.list n1 (bU R)),.d (.list n2 (ints cs))] H (.ok (.d (.list false (bU (oG R cs))))) H:=by
 refine ag.ai (hint:=(fun _=>false)) Tryz.func74 (by kernel_rfl) rfl [4] (by kernel_rfl) (by decide) (by simp[Tryz.ntmps74]) ?_
 rw[Tryz.ntmps74]
 have hlen:(oG R cs).length=R.length:=St.aW _
 have hmem:∀r∈oG R cs,r.length≤1000000000:=fun r h=>hr r ((St.fL (kb cs).ord).1 h)
 simp -implicitDefEqProofs only[↓reduceIte,go_sem,Nat.reduceLT,reduceCtorEq]
 refine ae.ok (SR.dX R n1 _ (by omega)) ?_
 simp -implicitDefEqProofs only[↓reduceIte,go_sem,Nat.reduceLT,Nat.reduceEqDiff]
 refine ae.ok (wB n2 cs _) ?_
 simp -implicitDefEqProofs only[↓reduceIte,go_sem,Nat.reduceLT,Nat.reduceEqDiff]
 have hs:=SR.nh (H++[.arr 136 1 1 (R.map de),Bo n2 cs]) H.length 1 (by simp) 153 [.ptr (H.length+1) 0 0 0] (kA cs) (kb cs).ord (fun o x y=>uQ x y n2 cs hk (H.length+1) _ (by simp -implicitDefEqProofs only[go_sem])) R.length (by omega) R rfl
 have e1:∀L:List (List al),SR.aH (H++[.arr 136 1 1 (R.map de),Bo n2 cs]) H.length 1 L=H++[.arr 136 1 1 (L.map de),Bo n2 cs]:=fun L=>by simp -implicitDefEqProofs only[go_sem,SR.aH]
 rw[e1,e1]at hs
 refine ae.ok hs ?_
 have e2:St.aJ (SR.aV (kA cs)) R=oG R cs:=rfl
 rw[e2,←hlen]
 generalize oG R cs=Q at*
 simp -implicitDefEqProofs only[↓reduceIte,go_sem,Nat.reduceLT,Nat.reduceEqDiff]
 refine aU (fun k s H'=>H'=H++[.arr 136 1 1 (Q.map de),Bo n2 cs]∧s 5= .sl H.length 1 0 Q.length∧s 14= .sl H.length 1 0 Q.length∧s 15=iA Q.length∧s 16=iA k) Q.length (by omega) (ak.refl _ _) ?_ ?_ ?_
 ·refine⟨rfl,?_⟩
  simp -implicitDefEqProofs only[↓reduceIte,go_sem,Nat.reduceLT,Nat.reduceEqDiff]
 ·rintro k s H' hk' hw ⟨rfl,t5,t14,t15,t16⟩
  have hx:=kp Q k hk'
  have hrl:=hmem Q[k] (List.getElem_mem hk')
  have hset:(Q.map de).set k [.list false (Q[k].map al.enc)]=Q.map de:=by
   apply List.ext_getElem?
   intro i
   by_cases hi:i=k
   ·subst hi;simp[hk',de]
   ·rw[List.getElem?_set_ne (Ne.symm hi)]
  unfold bU at hx
  generalize Q[k]=v at*
  simp -implicitDefEqProofs only[↓reduceIte,go_sem,ab,Nat.reduceLT,Nat.reduceEqDiff,t5,t14,t15,t16,hk',hx]
  refine ae.ok (vW v false _ (by omega)) ?_
  simp -implicitDefEqProofs only[↓reduceIte,go_sem,aq,Nat.reduceLT,Nat.reduceEqDiff,t16,hk',hx,hset]
  refine cl.same ⟨rfl,?_⟩
  simp -implicitDefEqProofs only[↓reduceIte,go_sem,Nat.reduceLT,Nat.reduceEqDiff,t5,t14,t15,hw]
 ·rintro s H' ⟨rfl,t5,t14,t15,t16⟩
  simp -implicitDefEqProofs only[↓reduceIte,go_sem,Nat.reduceLT,Nat.reduceEqDiff,t5,t15,t16]
  refine an.ret ?_
  simp -implicitDefEqProofs only[↓reduceIte,go_sem,Nat.reduceLT,bU,List.take_of_length_le]
abbrev cB(n:Bool)(R:List (List al)):ay:= .box 22 1 0 1 [.d (.list n (bU R))]
abbrev nB(n:Int):ay:= .box 3 1 0 1 [iA n]
def zC(n:Nat):Nat:=(n+255)/256
def zu(R:List (List al))(k:Nat):List (List al):=(R.drop (256* k)).take 256
def qC(R:List (List al)):List (List (List al)):=(List.range (zC R.length)).map (zu R)
def GG(R:List (List al)):List (List AV):=(qC R).map fun p=>[.d (.list false (bU p))]
theorem mr(R:List (List al)):(GG R).length=zC R.length:=by simp[GG,qC]
theorem zo(R:List (List al))(k:Nat)(h:k<(GG R).length):(GG R)[k]=[.d (.list false (bU (zu R k)))]:=by simp[GG,qC]
theorem BR{n k:Nat}:k<zC n↔256* k<n:=by unfold zC;omega
theorem Dv(R:List (List al)):(∀c∈bU R,c.length=1)=True:=eq_true fun c hc=>by obtain⟨x,_,rfl⟩:=List.mem_map.1 hc;rfl
theorem xH(n:Bool)(R:List (List al))(H:aa):ag Tryz.prog 75 [.d (.list n (bU R)),iA 256] H (.ok (.fn 122 [.ptr H.length 0 0 0,.ptr (H.length+1) 0 0 0])) (H++[cB n R,nB 256]):=by
 refine ag.ai (hint:=(fun _=>false)) Tryz.func75 (by kernel_rfl) rfl [4] (by kernel_rfl) (by decide) (by simp[Tryz.ntmps75]) ?_
 rw[Tryz.ntmps75]
 simp -implicitDefEqProofs only[↓reduceIte,go_sem,ab,Nat.reduceLT,Nat.reduceEqDiff,Int.reduceLT]
 exact⟨_,ak.refl _ _,by simp -implicitDefEqProofs only[↓reduceIte,go_sem,Nat.reduceLT]⟩
theorem Df(n:Bool)(R:List (List al))(id id2:Nat)(hl:R.length≤1000000000000):mz Tryz.prog 122 [.ptr id 0 0 0,.ptr id2 0 0 0] (fun H=>H[id]?=some (cB n R)∧H[id2]?=some (nB 256)) (GG R):=by
 intro r s0 J Jx m Hs h0 hsb hJ hY
 refine oP.ai (hint:=fun t=>t==3000000) Tryz.func122 (by kernel_rfl) rfl [] (by kernel_rfl) (by decide) (by simp[Tryz.ntmps122]) ?_
 rw[Tryz.ntmps122]
 obtain⟨⟨hC0,hD0⟩,_,hl0⟩:=hJ 0 Hs h0
 simp -implicitDefEqProofs only[go_sem]
 refine aA (fun k s H'=>∃Hk,J k Hk∧H'=Hk++[.lp r s0]∧s 0= .gq m∧s 1= .ptr id 0 0 0∧s 2= .ptr id2 0 0 0∧s 4=iA ((256* k:Nat):Int)) (zC R.length) (by unfold zC;omega) (ak.refl _ _) ?_ ?_ ?_
 ·refine⟨Hs,h0,rfl,?_⟩
  simp -implicitDefEqProofs only[↓reduceIte,go_sem,Nat.reduceLT,Nat.reduceEqDiff,reduceCtorEq]
 ·rintro k s H' hk hw ⟨Hk,hJk,rfl,t0,t1,t2,t4⟩
  obtain⟨⟨hCk,hDk⟩,hbk,hlk⟩:=hJ _ _ hJk
  have hx:(Hk++[ay.lp r s0])[id]?=some (cB n R):=by rw[List.getElem?_append_left (aj hCk)];exact hCk
  have hy:(Hk++[ay.lp r s0])[id2]?=some (nB 256):=by rw[List.getElem?_append_left (aj hDk)];exact hDk
  have hkl:=BR.1 hk
  have hi:k<(GG R).length:=by rw[mr];exact hk
  have hYk:=fun T=>hY _ hi Hk T hJk
  rw[zo]at hYk
  obtain⟨q,hq⟩:∃q,q=256* k:=⟨_,rfl⟩
  rw[←hq]at t4 hkl
  have hpart:bU (zu R k)=((bU R).drop q).take 256:=by unfold zu bU;rw[List.map_take,List.map_drop,hq]
  rw[hpart]at hYk
  simp -implicitDefEqProofs only[↓reduceIte,go_sem,ab,Nat.reduceLT,Nat.reduceEqDiff,t1,t4,hx,hkl,cr]
  refine aF K.mixed (by kernel_rfl) ?_
  obtain⟨e,he⟩:∃e,e=q+min 256 (R.length-q):=⟨_,rfl⟩
  have hdl:(List.drop q (List.take R.length (bU R))).length=R.length-q:=by rw[List.length_drop,List.length_take,cr,Nat.min_self]
  have hmn:min (256:Int) ((R.length-q:Nat):Int)=((min 256 (R.length-q):Nat):Int):=by omega
  have hwe:IntKind.i64.wrap ((q:Int)+((min 256 (R.length-q):Nat):Int))=(e:Int):=by rw[wrap64_in _ (by omega) (by omega)];omega
  have hw2:IntKind.i64.wrap ((q:Int)+256)=((q+256:Nat):Int):=by rw[wrap64_in _ (by omega) (by omega)];omega
  have hsl:List.drop q (List.take e (bU R))=((bU R).drop q).take 256:=by
   rw[List.drop_take,show e-q=min 256 (R.length-q) by omega]
   by_cases h:R.length-q≤256
   ·rw[Nat.min_eq_right h,List.take_of_length_le (by rw[List.length_drop,cr];omega),List.take_of_length_le (by rw[List.length_drop,cr];omega)]
   ·rw[Nat.min_eq_left (by omega)]
  obtain⟨q2,hq2⟩:∃q2,q2=q+256:=⟨_,rfl⟩
  rw[←hq2]at hw2
  generalize hP:((bU R).drop q).take 256=P at*
  simp -implicitDefEqProofs only[↓reduceIte,go_sem,ab,Nat.reduceAdd,Nat.reduceLT,Nat.reduceEqDiff,Nat.reduceBEq,reduceCtorEq,t0,t1,t2,t4,hx,hy,cr,hdl,hmn,hwe,Dv]
  refine⟨by omega,by omega,by omega,?_⟩
  rw[hsl]
  refine ql.ok (hYk []) ?_
  intro b H' hb
  cases b with
  |true=>
   rw[if_pos rfl]at hb
   obtain⟨Hk',hJk',rfl⟩:=hb
   obtain⟨⟨hCk',hDk'⟩,hbk',hlk'⟩:=hJ _ _ hJk'
   have hy':(Hk'++[ay.lp r s0])[id2]?=some (nB 256):=by rw[List.getElem?_append_left (aj hDk')];exact hDk'
   simp -implicitDefEqProofs only[↓reduceIte,go_sem,ab,Nat.reduceAdd,Nat.reduceLT,Nat.reduceEqDiff,Nat.reduceBEq,t2,t4,hy',hw2]
   refine⟨_,_,ak.iter rfl hbk' hlk' hl0 hsb,Hk',hJk',rfl,?_⟩
   have hi1:=aj hC0
   have hi2:=aj hD0
   simp -implicitDefEqProofs only[↓reduceIte,go_sem,Nat.reduceLT,Nat.reduceEqDiff,reduceCtorEq,t0,t1,t2,show 256* (k+1)=q2 by omega,Nat.lt_add_one,show id<m+1 by omega,show id2<m+1 by omega]
  |false=>
   rw[if_neg (by simp)]at hb
   obtain⟨Hk',c,hjx,hbk',hlk',rfl⟩:=hb
   simp -implicitDefEqProofs only[↓reduceIte,go_sem,Nat.reduceLT]
   exact⟨_,_,ak.iter rfl hbk' hlk' hl0 hsb,rfl,.inr ⟨Hk',c,hjx,hlk',rfl⟩⟩
 ·rintro s H' ⟨Hk,hJk,rfl,t0,t1,t2,t4⟩
  obtain⟨⟨hCk,hDk⟩,hbk,hlk⟩:=hJ _ _ hJk
  have hx:(Hk++[ay.lp r s0])[id]?=some (cB n R):=by rw[List.getElem?_append_left (aj hCk)];exact hCk
  have hge:¬256* zC R.length<R.length:=by unfold zC;omega
  generalize 256* zC R.length=q at*
  simp -implicitDefEqProofs only[↓reduceIte,go_sem,ab,Nat.reduceLT,Nat.reduceEqDiff,t1,t4,hx,hge,cr]
  exact⟨_,_,ak.iter rfl hbk hlk hl0 hsb,rfl,.inl ⟨Hk,by rw[mr];exact hJk,rfl⟩⟩
end Go.Proofs.YtggohfhfocgilaaGreat
namespace Go.Proofs.YtggohfhfocgilaaGreatAw
open Go.RowKit
section
variable (P:Program) (hint:Nat→Bool) (n:Nat) (ops:Array Oper)
def bZ(B:aa)(Q:aQ):List (Option Bool)→List Oper→(Nat→AV)→aa→Prop
 |[],l,s,H=>aN P hint n ops Q l s H
 |_::_,[],s,H=>aN P hint n ops Q [] s H
 |some true::bs,o::rest,s,H=>cN P hint n ops (fun _ _ _=>False) o (fun s' H'=>Ext B H'∧bZ B Q bs rest s' H') s H
 |some false::bs,o::rest,s,H=>cN P hint n ops (fun _ _ _=>False) o (fun s' H'=>H'=H∧bZ B Q bs rest s' H') s H
 |none::bs,o::rest,s,H=>cN P hint n ops (fun _ _ _=>False) o (fun s' H'=>H'=B∧bZ B Q bs rest s' H) s B
end
section
variable {P:Program} {hint:Nat→Bool} {n:Nat} {ops:Array Oper} {Q:aQ}
theorem kE{B:aa}(hdt:∀(i:Nat) (o:Oper),ops[i]?=some o→jW hint o.op=true)(s0:Nat→AV):∀(bs:List (Option Bool)) (k:Nat) (rs0:Nat→AV) (hp0:Nat→aa),k+bs.length≤ops.size→bZ P hint n ops B Q bs (ops.toList.drop k) (bf n ops s0 rs0 k) (hp0 k)→
  ∃(rs:Nat→AV) (hp:Nat→aa),(∀i,i<k→rs i=rs0 i)∧(∀i,i≤k→hp i=hp0 i)∧
   (∀i o,k≤i→i<k+bs.length→ops[i]?=some o→(bs[i-k]?=some (some true)→bX P hint n ops (hp i) (bf n ops s0 rs i) o (rs i) (hp (i+1))∧Ext B (hp (i+1)))∧
    (bs[i-k]?=some (some false)→bX P hint n ops (hp i) (bf n ops s0 rs i) o (rs i) (hp i)∧hp (i+1)=hp i)∧
    (bs[i-k]?=some none→bX P hint n ops B (bf n ops s0 rs i) o (rs i) B∧hp (i+1)=hp i))∧
   aN P hint n ops Q (ops.toList.drop (k+bs.length)) (bf n ops s0 rs (k+bs.length)) (hp (k+bs.length))
 |[],k,rs0,hp0,hk,h=>⟨rs0,hp0,fun _ _=>rfl,fun _ _=>rfl,fun i o h1 h2=>by simp at h2;omega,by
   have h:aN P hint n ops Q (ops.toList.drop k) (bf n ops s0 rs0 k) (hp0 k):=by
    cases hd:ops.toList.drop k<;>(rw[hd]at h;exact h)
   exact h⟩
 |b::bs,k,rs0,hp0,hk,h=>by
  simp only[List.length_cons]at hk
  have hlt:k<ops.size:=by omega
  have hget:ops[k]?=some ops[k]:=by simp[hlt]
  have hd:ops.toList.drop k=ops[k]::ops.toList.drop (k+1):=by
   rw[List.drop_eq_getElem_cons (by simpa using hlt)];simp
  rw[hd]at h
  have hdst:aY ops k=(ops[k]).dst:=by simp[aY,hget]
  have step:∃r H',((b=some true→bX P hint n ops (hp0 k) (bf n ops s0 rs0 k) ops[k] r H'∧Ext B H')∧(b=some false→bX P hint n ops (hp0 k) (bf n ops s0 rs0 k) ops[k] r (hp0 k)∧H'=hp0 k)∧(b=none→bX P hint n ops B (bf n ops s0 rs0 k) ops[k] r B∧H'=hp0 k))∧bZ P hint n ops B Q bs (ops.toList.drop (k+1)) (bp n (bf n ops s0 rs0 k) (ops[k]).dst r) H':=by
   match b,h with
   |some true,h=>
    obtain⟨r,H',h1,h2,h3⟩:=jr (hdt k _ hget) h
    exact⟨r,H',⟨fun _=>⟨h1,h2⟩,fun e=>(by cases e),fun e=>(by cases e)⟩,h3⟩
   |some false,h=>
    obtain⟨r,H',h1,rfl,h3⟩:=jr (hdt k _ hget) h
    exact⟨r,_,⟨fun e=>(by cases e),fun _=>⟨h1,rfl⟩,fun e=>(by cases e)⟩,h3⟩
   |none,h=>
    obtain⟨r,H',h1,rfl,h3⟩:=jr (hdt k _ hget) h
    exact⟨r,_,⟨fun e=>(by cases e),fun e=>(by cases e),fun _=>⟨h1,rfl⟩⟩,h3⟩
  obtain⟨r,H',⟨h1,h2,h3⟩,h4⟩:=step
  let rs1:Nat→AV:=fun i=>if i=k then r else rs0 i
  let hp1:Nat→aa:=fun i=>if i=k+1 then H' else hp0 i
  have e1:rs1 k=r:=if_pos rfl
  have e2:hp1 (k+1)=H':=if_pos rfl
  have hst:∀(rs:Nat→AV) i,i≤k→(∀j,j<i→rs j=rs0 j)→bf n ops s0 rs i=bf n ops s0 rs0 i:=by
   intro rs i
   induction i with
   |zero=>intros;rfl
   |succ i ih=>
    intro hi hr
    simp only[bf,ih (by omega) fun j hj=>hr j (by omega),hr i (by omega)]
  have h5:bZ P hint n ops B Q bs (ops.toList.drop (k+1)) (bf n ops s0 rs1 (k+1)) (hp1 (k+1)):=by
   rw[e2]
   simp only[bf,e1,hdst]
   rw[hst rs1 k (Nat.le_refl _) fun j hj=>if_neg (by omega)]
   exact h4
  obtain⟨rs,hp,g1,g2,g3,g4⟩:=kE hdt s0 bs (k+1) rs1 hp1 (by omega) h5
  have f1:∀i,i<k→rs i=rs0 i:=fun i hi=>by rw[g1 i (by omega)];exact if_neg (by omega)
  have f2:∀i,i≤k→hp i=hp0 i:=fun i hi=>by rw[g2 i (by omega)];exact if_neg (by omega)
  have f3:rs k=r:=by rw[g1 k (by omega)];exact e1
  have f4:hp (k+1)=H':=by rw[g2 (k+1) (by omega)];exact e2
  refine⟨rs,hp,f1,f2,fun i o hi hi2 ho=>?_,by rw[List.length_cons,show k+(bs.length+1)=k+1+bs.length from by omega];exact g4⟩
  rcases Nat.lt_or_ge k i with hki|hki
  ·have:=g3 i o hki (by simp only[List.length_cons]at hi2;omega) ho
   rw[show i-k=(i-(k+1))+1 from by omega,List.getElem?_cons_succ]
   exact this
  ·obtain rfl:i=k:=by omega
   rw[hget]at ho
   cases ho
   rw[Nat.sub_self,List.getElem?_cons_zero,f2 i (Nat.le_refl _),f3,f4,hst rs i (Nat.le_refl _) fun j hj=>f1 j hj]
   refine⟨fun e=>h1 (Option.some.inj e),fun e=>?_,fun e=>h3 (Option.some.inj e)⟩
   obtain⟨g1,g2⟩:=h2 (Option.some.inj e)
   exact⟨g1,g2⟩
end
def rO(hint:Nat→Bool)(ops:Array Oper)(bs:List (Option Bool))(c0:Nat):Bool:=bs[c0]?==some (some true)&&(List.range bs.length).all fun i=>match bs[i]?,ops[i]? with
 |some (some false),some o=>js hint false o||(decide (i<c0)&&cg ops 12 c0 i)
 |some none,some o=>js hint true o
 |some (some true),some _=>decide (c0≤i)&&(List.range i).all fun c=>bs[c]?==some (some false)||bs[c]?==some none||cg ops 12 i c
 |_,_=>false
section
variable {P:Program} {hint:Nat→Bool} {n:Nat} {ops:Array Oper} {Q:aQ}
theorem rQ(bs:List (Option Bool))(c0:Nat)(B:aa){H0 H:aa}{id:Nat}{s:Nat→AV}(hm:P.follows .mixedOrders=true)(hc:dK hint ops=true)(ht:dH ops bs.length=true)(hx:rO hint ops bs c0=true)(hB:Ext B H)
  (h:bZ P hint n ops B Q bs ops.toList s H):cE P hint n H0 (.region id ops true) Q s H:=by
 obtain⟨hms,htl⟩:=eA ht
 refine⟨hm,?_⟩
 obtain⟨rs,hp,_,g2,g3,g4⟩:=kE (cf hc).Ir s bs 0 (fun _=> .top) (fun _=>H) (by omega) h
 have g20:hp 0=H:=g2 0 (Nat.le_refl _)
 simp only[Nat.zero_add,Nat.sub_zero,Nat.zero_le,true_implies]at g3 g4
 unfold rO at hx
 rw[Bool.and_eq_true,List.all_eq_true]at hx
 obtain⟨hx0,hx⟩:=hx
 have hx0:bs[c0]?=some (some true):=by simpa using hx0
 have hget:∀i,i<bs.length→∃o,ops[i]?=some o:=fun i hi=>⟨ops[i]'(by omega),by simp[show i<ops.size by omega]⟩
 have hbs:∀i (hi:i<bs.length),bs[i]?=some bs[i]:=fun i hi=>List.getElem?_eq_getElem hi
 let ch:Nat→Bool:=fun i=>bs[i]?==some (some true)
 have chT:∀i,ch i=true→bs[i]?=some (some true):=fun i h=>by
  have h:(bs[i]?==some (some true))=true:=h
  simpa using h
 have chF:∀i,i<bs.length→ch i=false→bs[i]?=some (some false)∨bs[i]?=some none:=fun i hi h=>by
  have h:(bs[i]?==some (some true))=false:=h
  rw[hbs i hi]at h⊢
  rcases hb:bs[i]with _|_|_
  ·exact .inr rfl
  ·exact .inl rfl
  ·rw[hb]at h;simp at h
 have hstay:∀i o,i<bs.length→ops[i]?=some o→ch i=false→hp (i+1)=hp i:=fun i o hi ho hci=>by
  rcases chF i hi hci with h|h
  ·exact((g3 i o hi ho).2.1 h).2
  ·exact((g3 i o hi ho).2.2 h).2
 have hext:∀j,j≤bs.length→Ext B (hp j):=by
  intro j
  induction j with
  |zero=>intro _;rw[g20];exact hB
  |succ j ihj=>
   intro hj
   obtain⟨o,ho⟩:=hget j (by omega)
   cases hcj:ch j with
   |true=>exact((g3 j o (by omega) ho).1 (chT j hcj)).2
   |false=>rw[hstay j o (by omega) ho hcj];exact ihj (by omega)
 have hc0:ch c0=true:=by show(bs[c0]?==some (some true))=true;rw[hx0];rfl
 have hfirst:∀i,i<bs.length→i<c0→ch i=false:=by
  intro i hi hlt
  cases hci:ch i with
  |false=>rfl
  |true=>
   exfalso
   obtain⟨o,ho⟩:=hget i hi
   have:=hx i (List.mem_range.2 hi)
   rw[chT i hci,ho]at this
   simp only[Bool.and_eq_true,decide_eq_true_eq]at this
   omega
 have hbase:∀i,i≤bs.length→i≤c0→hp i=H:=by
  intro i
  induction i with
  |zero=>intros;exact g20
  |succ i ihi=>
   intro hi hcf
   obtain⟨o,ho⟩:=hget i (by omega)
   rw[hstay i o (by omega) ho (hfirst i (by omega) (by omega))]
   exact ihi (by omega) (by omega)
 refine kV (cf hc) bs.length hms htl s rs hp ch ?_ ?_ ?_ ?_ g4 ops.size (Array.replicate ops.size false) s H (by simp) ?_ ?_ ?_ ?_ ?_ ⟨0,Nat.zero_le _,g20.symm,fun c hcm hct=>?_⟩
 ·intro c c' h1 h2 h3 h4
  have:=hx c' (List.mem_range.2 h2)
  obtain⟨o,ho⟩:=hget c' h2
  rw[chT c' h4,ho]at this
  simp only[Bool.and_eq_true,List.all_eq_true]at this
  have:=this.2 c (List.mem_range.2 h1)
  rw[chT c h3]at this
  simpa using this
 ·intro i hi hci
  obtain⟨o,ho⟩:=hget i hi
  exact hstay i o hi ho hci
 ·intro i o hi ho hci
  exact((g3 i o hi ho).1 (chT i hci)).1
 ·intro i o hi ho hci j hj hnr
  have hfl:=hx i (List.mem_range.2 hi)
  rcases chF i hi hci with hk|hk
  ·rw[hk,ho]at hfl
   simp only[Bool.or_eq_true,Bool.and_eq_true,decide_eq_true_eq]at hfl
   have hs:=((g3 i o hi ho).2.1 hk).1
   rcases hfl with hfl|⟨hlt,hre⟩
   ·exact dI hfl (fun hf=>by cases hf) hs
   ·have hjc:j≤c0:=by
     rcases Nat.lt_or_ge c0 j with h1|h1
     ·have:=hnr c0 h1 hc0
      rw[hre]at this;cases this
     ·exact h1
    rw[hbase j hj hjc]
    rw[hbase i (by omega) (by omega)]at hs
    exact hs
  ·rw[hk,ho]at hfl
   exact dI (first:=true) hfl (fun _=>hext j hj) ((g3 i o hi ho).2.2 hk).1
 ·exact Nat.le_trans List.countP_le_length (by simp)
 ·intro t j hj
  have hjl:=dP hj
  rw[if_neg (by simp[Array.getD,hjl])]
 ·intro t _;rfl
 ·intro j oj i hoj hl
  have hjl:=(Array.getElem?_eq_some_iff.1 hoj).1
  simp[Array.getD,hjl]at hl
 ·intro i hi hi2
  simp[Array.getD,hi2]
 ·have:c<ops.size:=by omega
  simp[Array.getD,this]
end
section
variable (P:Program) (hint:Nat→Bool) (n:Nat) (ops:Array Oper) (Q:aQ) (rest:List Oper) (s:Nat→AV) (H B:aa) (bs:List (Option Bool))
def oZ(b:Option Bool)(d:Option Tmp)(H0:aa):AV→aa→Prop:=fun r H'=>(match b with|some true=>Ext B H'∧bZ P hint n ops B Q bs rest (bp n s d r) H'|some false=>H'=H0∧bZ P hint n ops B Q bs rest (bp n s d r) H'|none=>H'=B∧bZ P hint n ops B Q bs rest (bp n s d r) H0)
theorem xJ(d:Option Tmp)(H0:aa)(r:AV):oZ P hint n ops Q rest s B bs (some true) d H0 r H=(Ext B H∧bZ P hint n ops B Q bs rest (bp n s d r) H):=rfl
theorem uo(d:Option Tmp)(H0:aa)(r:AV):oZ P hint n ops Q rest s B bs (some false) d H0 r H=(H=H0∧bZ P hint n ops B Q bs rest (bp n s d r) H):=rfl
theorem xE(d:Option Tmp)(H0:aa)(r:AV):oZ P hint n ops Q rest s B bs none d H0 r H=(H=B∧bZ P hint n ops B Q bs rest (bp n s d r) H0):=rfl
theorem tO(l:List Oper):bZ P hint n ops B Q [] l s H=aN P hint n ops Q l s H:=by cases l<;>rfl
theorem sj(b:Bool)(d:Option Tmp)(op:Op)(ty:TypeId)(p:String)(af:Array Edge):bZ P hint n ops B Q (some b::bs) (⟨d,op,ty,p,af,none⟩::rest) s H=aB P hint s H ⟨d,op,ty,p,af,none⟩ (oZ P hint n ops Q rest s B bs (some b) d H) BN:=by
 cases b<;>simp only[bZ,cN]<;>rfl
theorem sy(d:Option Tmp)(op:Op)(ty:TypeId)(p:String)(af:Array Edge):bZ P hint n ops B Q (none::bs) (⟨d,op,ty,p,af,none⟩::rest) s H=aB P hint s B ⟨d,op,ty,p,af,none⟩ (oZ P hint n ops Q rest s B bs none d H) BN:=by
 simp only[bZ,cN]<;>rfl
theorem xY(l:List Oper):bZ P hint n ops B Q bs l.toArray.toList s H=bZ P hint n ops B Q bs l s H:=rfl
end
@[congr] theorem Jz {P:Program} {hint:Nat→Bool} {n:Nat} {ops:Array Oper} {Q:aQ} {bs:List (Option Bool)} {l:List Oper} {s:Nat→AV} {B H H':aa} (h:nf H=H'):bZ P hint n ops B Q bs l s H=bZ P hint n ops B Q bs l s H':=by rw[←h];rfl
@[congr] theorem Hy {P:Program} {hint:Nat→Bool} {n:Nat} {ops:Array Oper} {Q:aQ} {rest:List Oper} {s:Nat→AV} {bs:List (Option Bool)} {b:Option Bool} {d:Option Tmp} {B H0 H H':aa} {r r':AV} (g:nf r=r') (h:nf H=H'):oZ P hint n ops Q rest s B bs b d H0 r H=oZ P hint n ops Q rest s B bs b d H0 r' H':=by rw[←g,←h];rfl
attribute [go_sem] xJ uo xE tO sj sy xY
end Go.Proofs.YtggohfhfocgilaaGreatAw
namespace Go.Proofs.YtggohfhfocgilaaGreat
open Go.Proofs.YtggohfhfocgilaaGreatAw Go.RowKit
structure Zn where
 rows:Nat
 cD:Nat
 mn:al
 mx:al
deriving DecidableEq
def Zn.cs(z:Zn):List AV:=[iA z.rows,iA z.cD,iA z.mn.kind,iA z.mn.i,sA z.mn.s,iA z.mx.kind,iA z.mx.i,sA z.mx.s]
def gk(z:Zn)(v:al):Zn:=if z.mn.kind=0 then⟨z.rows,z.cD,v,v⟩else z
def gH(z:Zn)(v:al):Zn:=if aO v z.mn<0 then⟨z.rows,z.cD,v,z.mx⟩else z
def ir(z:Zn)(v:al):Zn:=if 0<aO v z.mx then⟨z.rows,z.cD,z.mn,v⟩else z
def aT(z:Zn)(v:al):Zn:=if v.kind=0 then⟨z.rows,z.cD+1,z.mn,z.mx⟩else ir (gH (gk z v) v) v
def oF(l:List al):Zn:=l.foldl aT ⟨l.length,0,⟨0,0,jE⟩,⟨0,0,jE⟩⟩
theorem oV(z:Zn)(v:al):(aT z v).cD≤z.cD+1:=by
 have e1:(gk z v).cD=z.cD:=by unfold gk;split<;>rfl
 have e2:∀z,(gH z v).cD=z.cD:=fun z=>by unfold gH;split<;>rfl
 have e3:∀z,(ir z v).cD=z.cD:=fun z=>by unfold ir;split<;>rfl
 unfold aT
 split
 ·exact Nat.le_refl _
 ·rw[e3,e2,e1];omega
theorem BH(l:List al)(nn:Bool)(hl:l.length≤1000000000)(H:aa):ag Tryz.prog 127 [.d (.list nn (l.map al.enc))] H (.ok (.agg (oF l).cs)) H:=by
 refine ag.cA (hint:=fun _=>false) Tryz.func127 (by kernel_rfl) rfl [.cell 2 102] (by kernel_rfl) (by simp[Tryz.ntmps127]) ?_
 rw[Tryz.ntmps127]
 have hnl:∀k,k≤l.length→((l.take k).foldl aT ⟨l.length,0,⟨0,0,jE⟩,⟨0,0,jE⟩⟩).cD≤k:=by
  intro k
  induction k with
  |zero=>intro _;simp
  |succ k ih=>
   intro hk
   rw[List.take_succ_eq_append_getElem (by omega),List.foldl_append]
   have:=oV ((l.take k).foldl aT ⟨l.length,0,⟨0,0,jE⟩,⟨0,0,jE⟩⟩) l[k]
   have:=ih (by omega)
   simp only[List.foldl_cons,List.foldl_nil]
   omega
 simp -implicitDefEqProofs only[↓reduceIte,go_sem,aq,Nat.reduceAdd,Nat.reduceLT,Nat.reduceLeDiff,Nat.reduceEqDiff,reduceCtorEq,List.length_map]
 refine aU (fun k s H'=>∃z:Zn,z=(l.take k).foldl aT ⟨l.length,0,⟨0,0,jE⟩,⟨0,0,jE⟩⟩∧H'=H++[.box 102 8 0 1 [iA 0,iA 0,iA 0,iA 0,sA ⟨#[]⟩,iA 0,iA 0,sA ⟨#[]⟩],.box 102 8 0 1 z.cs]∧s 2= .ptr H.length 0 0 0∧s 3= .ptr (H.length+1) 0 0 0∧s 9= .d (.list nn (l.map al.enc))∧s 10=iA l.length∧s 11=iA k) l.length (by omega) (ak.refl _ _) ?_ ?_ ?_
 ·refine⟨⟨l.length,0,⟨0,0,jE⟩,⟨0,0,jE⟩⟩,rfl,rfl,?_⟩
  simp -implicitDefEqProofs only[↓reduceIte,go_sem,Nat.reduceLT,Nat.reduceEqDiff]
 ·rintro k s H' hk hw ⟨z,hz,rfl,t2,t3,t9,t10,t11⟩
  have hx:(l.map al.enc)[k]?=some [.v (.int .i64 l[k].kind),.v (.int .i64 l[k].i),.v (.string l[k].s)]:=by rw[List.getElem?_map,List.getElem?_eq_getElem hk];rfl
  have e1:(l.take (k+1)).foldl aT ⟨l.length,0,⟨0,0,jE⟩,⟨0,0,jE⟩⟩=aT z l[k]:=by rw[List.take_succ_eq_append_getElem hk,List.foldl_append,hz];rfl
  have hn:=hnl k (by omega)
  rw[←hz]at hn
  rw[e1]
  clear hz e1 hnl
  generalize l[k]=v at*
  obtain⟨zr,zn,zmn,zmx⟩:=z
  simp only at hn
  have wn:IntKind.i64.wrap ((zn:Int)+1)=((zn+1:Nat):Int):=by rw[wrap64_in _ (by omega) (by omega)];rfl
  by_cases hk0:v.kind=0
  ·have hst:aT ⟨zr,zn,zmn,zmx⟩ v=⟨zr,zn+1,zmn,zmx⟩:=if_pos hk0
   rw[hst]
   simp -implicitDefEqProofs only[↓reduceIte,go_sem,ab,aq,Nat.reduceAdd,Nat.reduceLT,Nat.reduceLeDiff,Nat.reduceEqDiff,t3,t9,t10,t11,hk,hx,hk0,Zn.cs,wn]
   refine cl.cut [.box 102 8 0 1 [iA 0,iA 0,iA 0,iA 0,sA ⟨#[]⟩,iA 0,iA 0,sA ⟨#[]⟩],.box 102 8 0 1 (Zn.cs ⟨zr,zn+1,zmn,zmx⟩)] _ 2 rfl rfl (by simp -implicitDefEqProofs only[go_sem,Zn.cs]) ⟨⟨zr,zn+1,zmn,zmx⟩,rfl,rfl,?_⟩
   simp -implicitDefEqProofs only[↓reduceIte,go_sem,Nat.reduceLT,Nat.reduceEqDiff,t2,t3,t9,t10,hw]
  ·by_cases hm:zmn.kind=0
   ·have hE:∀cs:List AV,Ext (H++[.box 102 8 0 1 [iA 0,iA 0,iA 0,iA 0,sA ⟨#[]⟩,iA 0,iA 0,sA ⟨#[]⟩],.dead 0,.box 100 3 0 1 [iA v.kind,iA v.i,sA v.s]]) (H++[.box 102 8 0 1 [iA 0,iA 0,iA 0,iA 0,sA ⟨#[]⟩,iA 0,iA 0,sA ⟨#[]⟩],.box 102 8 0 1 cs,.box 100 3 0 1 [iA v.kind,iA v.i,sA v.s]]):=fun cs=>
     Ext.dC H ⟨fun _=>rfl,fun h=>(by cases h),fun _=>rfl,trivial⟩
    have hE':=fun cs=>eq_true (hE cs)
    simp -implicitDefEqProofs only[↓reduceIte,go_sem,ab,aq,Nat.reduceAdd,Nat.reduceLT,Nat.reduceLeDiff,Nat.reduceEqDiff,t3,t9,t10,t11,hk,hx,hk0,hm,Zn.cs]
    refine rQ [some false,none,some false,some true,some true,some true] 3 (H++[.box 102 8 0 1 [iA 0,iA 0,iA 0,iA 0,sA ⟨#[]⟩,iA 0,iA 0,sA ⟨#[]⟩],.dead 0,.box 100 3 0 1 [iA v.kind,iA v.i,sA v.s]]) K.mixed (by kernel_rfl) (by kernel_rfl) (by kernel_rfl) (hE _) ?_
    simp -implicitDefEqProofs only[↓reduceIte,go_sem,ab,aq,Nat.reduceAdd,Nat.reduceLT,Nat.reduceLeDiff,Nat.reduceEqDiff,t3,hE']
    refine ae.ok (cF v v _) ?_
    by_cases c1:aO v v<0
    ·simp -implicitDefEqProofs only[↓reduceIte,go_sem,ab,aq,Nat.reduceAdd,Nat.reduceLT,Nat.reduceLeDiff,Nat.reduceEqDiff,t3,c1]
     refine ae.ok (cF v v _) ?_
     by_cases c2:0<aO v v
     ·have hst:aT ⟨zr,zn,zmn,zmx⟩ v=⟨zr,zn,v,v⟩:=by
        simp only[aT,gk,gH,ir,hk0,hm,c1,c2,if_true,if_false]
      rw[hst]
      simp -implicitDefEqProofs only[↓reduceIte,go_sem,ab,aq,Nat.reduceAdd,Nat.reduceLT,Nat.reduceEqDiff,t3,t11,c2]
      refine cl.cut [.box 102 8 0 1 [iA 0,iA 0,iA 0,iA 0,sA ⟨#[]⟩,iA 0,iA 0,sA ⟨#[]⟩],.box 102 8 0 1 (Zn.cs ⟨zr,zn,v,v⟩)] _ 2 rfl rfl (by simp -implicitDefEqProofs only[go_sem,Zn.cs]) ⟨⟨zr,zn,v,v⟩,rfl,rfl,?_⟩
      simp -implicitDefEqProofs only[↓reduceIte,go_sem,Nat.reduceLT,Nat.reduceEqDiff,t2,t3,t9,t10,hw]
     ·have hst:aT ⟨zr,zn,zmn,zmx⟩ v=⟨zr,zn,v,v⟩:=by
        simp only[aT,gk,gH,ir,hk0,hm,c1,c2,if_true,if_false]
      rw[hst]
      simp -implicitDefEqProofs only[↓reduceIte,go_sem,Nat.reduceLT,Nat.reduceEqDiff,t11,c2]
      refine cl.cut [.box 102 8 0 1 [iA 0,iA 0,iA 0,iA 0,sA ⟨#[]⟩,iA 0,iA 0,sA ⟨#[]⟩],.box 102 8 0 1 (Zn.cs ⟨zr,zn,v,v⟩)] _ 2 rfl rfl (by simp -implicitDefEqProofs only[go_sem,Zn.cs]) ⟨⟨zr,zn,v,v⟩,rfl,rfl,?_⟩
      simp -implicitDefEqProofs only[↓reduceIte,go_sem,Nat.reduceLT,Nat.reduceEqDiff,t2,t3,t9,t10,hw]
    ·simp -implicitDefEqProofs only[↓reduceIte,go_sem,ab,Nat.reduceAdd,Nat.reduceLT,Nat.reduceEqDiff,t3,c1]
     refine ae.ok (cF v v _) ?_
     by_cases c2:0<aO v v
     ·have hst:aT ⟨zr,zn,zmn,zmx⟩ v=⟨zr,zn,v,v⟩:=by
        simp only[aT,gk,gH,ir,hk0,hm,c1,c2,if_true,if_false]
      rw[hst]
      simp -implicitDefEqProofs only[↓reduceIte,go_sem,ab,aq,Nat.reduceAdd,Nat.reduceLT,Nat.reduceEqDiff,t3,t11,c2]
      refine cl.cut [.box 102 8 0 1 [iA 0,iA 0,iA 0,iA 0,sA ⟨#[]⟩,iA 0,iA 0,sA ⟨#[]⟩],.box 102 8 0 1 (Zn.cs ⟨zr,zn,v,v⟩)] _ 2 rfl rfl (by simp -implicitDefEqProofs only[go_sem,Zn.cs]) ⟨⟨zr,zn,v,v⟩,rfl,rfl,?_⟩
      simp -implicitDefEqProofs only[↓reduceIte,go_sem,Nat.reduceLT,Nat.reduceEqDiff,t2,t3,t9,t10,hw]
     ·have hst:aT ⟨zr,zn,zmn,zmx⟩ v=⟨zr,zn,v,v⟩:=by
        simp only[aT,gk,gH,ir,hk0,hm,c1,c2,if_true,if_false]
      rw[hst]
      simp -implicitDefEqProofs only[↓reduceIte,go_sem,Nat.reduceLT,Nat.reduceEqDiff,t11,c2]
      refine cl.cut [.box 102 8 0 1 [iA 0,iA 0,iA 0,iA 0,sA ⟨#[]⟩,iA 0,iA 0,sA ⟨#[]⟩],.box 102 8 0 1 (Zn.cs ⟨zr,zn,v,v⟩)] _ 2 rfl rfl (by simp -implicitDefEqProofs only[go_sem,Zn.cs]) ⟨⟨zr,zn,v,v⟩,rfl,rfl,?_⟩
      simp -implicitDefEqProofs only[↓reduceIte,go_sem,Nat.reduceLT,Nat.reduceEqDiff,t2,t3,t9,t10,hw]
   ·simp -implicitDefEqProofs only[↓reduceIte,go_sem,ab,aq,Nat.reduceAdd,Nat.reduceLT,Nat.reduceLeDiff,Nat.reduceEqDiff,t3,t9,t10,t11,hk,hx,hk0,hm,Zn.cs]
    refine ae.ok (cF v zmn _) ?_
    by_cases c1:aO v zmn<0
    ·simp -implicitDefEqProofs only[↓reduceIte,go_sem,ab,aq,Nat.reduceAdd,Nat.reduceLT,Nat.reduceLeDiff,Nat.reduceEqDiff,t3,c1]
     refine ae.ok (cF v zmx _) ?_
     by_cases c2:0<aO v zmx
     ·have hst:aT ⟨zr,zn,zmn,zmx⟩ v=⟨zr,zn,v,v⟩:=by
        simp only[aT,gk,gH,ir,hk0,hm,c1,c2,if_true,if_false]
      rw[hst]
      simp -implicitDefEqProofs only[↓reduceIte,go_sem,ab,aq,Nat.reduceAdd,Nat.reduceLT,Nat.reduceEqDiff,t3,t11,c2]
      refine cl.cut [.box 102 8 0 1 [iA 0,iA 0,iA 0,iA 0,sA ⟨#[]⟩,iA 0,iA 0,sA ⟨#[]⟩],.box 102 8 0 1 (Zn.cs ⟨zr,zn,v,v⟩)] _ 2 rfl rfl (by simp -implicitDefEqProofs only[go_sem,Zn.cs]) ⟨⟨zr,zn,v,v⟩,rfl,rfl,?_⟩
      simp -implicitDefEqProofs only[↓reduceIte,go_sem,Nat.reduceLT,Nat.reduceEqDiff,t2,t3,t9,t10,hw]
     ·have hst:aT ⟨zr,zn,zmn,zmx⟩ v=⟨zr,zn,v,zmx⟩:=by
        simp only[aT,gk,gH,ir,hk0,hm,c1,c2,if_true,if_false]
      rw[hst]
      simp -implicitDefEqProofs only[↓reduceIte,go_sem,Nat.reduceLT,Nat.reduceEqDiff,t11,c2]
      refine cl.cut [.box 102 8 0 1 [iA 0,iA 0,iA 0,iA 0,sA ⟨#[]⟩,iA 0,iA 0,sA ⟨#[]⟩],.box 102 8 0 1 (Zn.cs ⟨zr,zn,v,zmx⟩)] _ 2 rfl rfl (by simp -implicitDefEqProofs only[go_sem,Zn.cs]) ⟨⟨zr,zn,v,zmx⟩,rfl,rfl,?_⟩
      simp -implicitDefEqProofs only[↓reduceIte,go_sem,Nat.reduceLT,Nat.reduceEqDiff,t2,t3,t9,t10,hw]
    ·simp -implicitDefEqProofs only[↓reduceIte,go_sem,ab,Nat.reduceAdd,Nat.reduceLT,Nat.reduceEqDiff,t3,c1]
     refine ae.ok (cF v zmx _) ?_
     by_cases c2:0<aO v zmx
     ·have hst:aT ⟨zr,zn,zmn,zmx⟩ v=⟨zr,zn,zmn,v⟩:=by
        simp only[aT,gk,gH,ir,hk0,hm,c1,c2,if_true,if_false]
      rw[hst]
      simp -implicitDefEqProofs only[↓reduceIte,go_sem,ab,aq,Nat.reduceAdd,Nat.reduceLT,Nat.reduceEqDiff,t3,t11,c2]
      refine cl.cut [.box 102 8 0 1 [iA 0,iA 0,iA 0,iA 0,sA ⟨#[]⟩,iA 0,iA 0,sA ⟨#[]⟩],.box 102 8 0 1 (Zn.cs ⟨zr,zn,zmn,v⟩)] _ 2 rfl rfl (by simp -implicitDefEqProofs only[go_sem,Zn.cs]) ⟨⟨zr,zn,zmn,v⟩,rfl,rfl,?_⟩
      simp -implicitDefEqProofs only[↓reduceIte,go_sem,Nat.reduceLT,Nat.reduceEqDiff,t2,t3,t9,t10,hw]
     ·have hst:aT ⟨zr,zn,zmn,zmx⟩ v=⟨zr,zn,zmn,zmx⟩:=by
        simp only[aT,gk,gH,ir,hk0,hm,c1,c2,if_false]
      rw[hst]
      simp -implicitDefEqProofs only[↓reduceIte,go_sem,Nat.reduceLT,Nat.reduceEqDiff,t11,c2]
      refine cl.cut [.box 102 8 0 1 [iA 0,iA 0,iA 0,iA 0,sA ⟨#[]⟩,iA 0,iA 0,sA ⟨#[]⟩],.box 102 8 0 1 (Zn.cs ⟨zr,zn,zmn,zmx⟩)] _ 2 rfl rfl (by simp -implicitDefEqProofs only[go_sem,Zn.cs]) ⟨⟨zr,zn,zmn,zmx⟩,rfl,rfl,?_⟩
      simp -implicitDefEqProofs only[↓reduceIte,go_sem,Nat.reduceLT,Nat.reduceEqDiff,t2,t3,t9,t10,hw]
 ·rintro s H' ⟨z,hz,rfl,t2,t3,t9,t10,t11⟩
  rw[List.take_length]at hz
  have hz':oF l=z:=hz.symm
  rw[hz']
  simp -implicitDefEqProofs only[↓reduceIte,go_sem,ab,aq,Nat.reduceAdd,Nat.reduceLT,Nat.reduceEqDiff,t2,t3,t10,t11,Zn.cs]
  refine cV.ret ?_
  simp -implicitDefEqProofs only[↓reduceIte,go_sem,ab,Nat.reduceAdd,Nat.reduceLeDiff,Nat.reduceEqDiff,bH,cX,t2]
def oT(k:Int):Bool:=decide (1≤k)&&decide (k≤3)
theorem yO(k:Int)(H:aa):ag Tryz.prog 159 [iA k] H (.ok (bA (oT k))) H:=by
 refine ag.ai (hint:=(fun _=>false)) Tryz.func159 (by kernel_rfl) rfl [2] (by kernel_rfl) (by decide) (by simp[Tryz.ntmps159]) ?_
 rw[Tryz.ntmps159]
 by_cases h:1≤k
 ·simp -implicitDefEqProofs only[↓reduceIte,go_sem,Nat.reduceLT,Nat.reduceEqDiff,reduceCtorEq,h]
  refine an.aI ?_
  simp -implicitDefEqProofs only[↓reduceIte,go_sem,Nat.reduceLT,oT,h]
 ·simp -implicitDefEqProofs only[↓reduceIte,go_sem,Nat.reduceLT,Nat.reduceEqDiff,reduceCtorEq,h]
  refine an.aI ?_
  simp -implicitDefEqProofs only[↓reduceIte,go_sem,Nat.reduceLT,oT,h]
def bj(l:List al)(k:Int):Int:=if !oT k then 1 else if 4096<l.length then 2 else if l.any (fun v=> !decide (v.kind=k))then 7 else if l.any (fun v=> !fo v)then 1 else 0
theorem uT(v:al)(k:Int)(id:Nat)(H:aa)(hb:H[id]?=some (.box 3 1 0 1 [iA k])):ag Tryz.prog 157 [v.av,.ptr id 0 0 0] H (.ok (bA (!decide (v.kind=k)))) H:=by
 have hlt:id<H.length:=(List.getElem?_eq_some_iff.1 hb).1
 refine ag.ai (hint:=(fun _=>false)) Tryz.func157 (by kernel_rfl) rfl [3] (by kernel_rfl) (by decide) (by simp[Tryz.ntmps157]) ?_
 rw[Tryz.ntmps157]
 simp -implicitDefEqProofs only[↓reduceIte,go_sem,ab,Nat.reduceAdd,Nat.reduceLT,Nat.reduceLeDiff,Nat.reduceEqDiff,hb,List.getElem?_append_left hlt]
 refine an.ret ?_
 simp -implicitDefEqProofs only[↓reduceIte,go_sem,Nat.reduceLT]
theorem tN(v:al)(H:aa):ag Tryz.prog 158 [v.av] H (.ok (bA (!fo v))) H:=by
 refine ag.ai (hint:=(fun _=>false)) Tryz.func158 (by kernel_rfl) rfl [2] (by kernel_rfl) (by decide) (by simp[Tryz.ntmps158]) ?_
 rw[Tryz.ntmps158]
 simp -implicitDefEqProofs only[↓reduceIte,go_sem,ab,Nat.reduceAdd,Nat.reduceLT,Nat.reduceEqDiff]
 refine ae.ok (fK v _) ?_
 simp -implicitDefEqProofs only[↓reduceIte,go_sem,Nat.reduceLT]
 refine an.ret ?_
 simp -implicitDefEqProofs only[↓reduceIte,go_sem,Nat.reduceLT]
theorem dD(l:List al)(k:Int)(nn:Bool)(H:aa)(hl:l.length≤9223372036854775807):ag Tryz.prog 124 [.d (.list nn (l.map al.enc)),iA k] H (.ok (iA (bj l k))) H:=by
 refine ag.ai (hint:=(fun _=>false)) Tryz.func124 (by kernel_rfl) rfl [4] (by kernel_rfl) (by decide) (by simp[Tryz.ntmps124]) ?_
 rw[Tryz.ntmps124]
 simp -implicitDefEqProofs only[↓reduceIte,go_sem,ab,Nat.reduceLT,Nat.reduceEqDiff]
 refine ae.ok (yO k _) ?_
 cases h1:oT k with
 |false=>
  simp -implicitDefEqProofs only[↓reduceIte,go_sem,Nat.reduceLT]
  refine an.ret ?_
  simp -implicitDefEqProofs only[↓reduceIte,go_sem,Nat.reduceLT,bj,h1]
 |true=>
  by_cases h2:4096<l.length
  ·simp -implicitDefEqProofs only[↓reduceIte,go_sem,Nat.reduceLT,reduceCtorEq,show((4096:Int)<(l.length:Int))=True from eq_true (by omega)]
   refine an.ret ?_
   simp -implicitDefEqProofs only[↓reduceIte,go_sem,Nat.reduceLT,bj,h1,h2,Bool.false_eq_true]
  ·simp -implicitDefEqProofs only[↓reduceIte,go_sem,Nat.reduceLT,Nat.reduceEqDiff,reduceCtorEq,show((4096:Int)<(l.length:Int))=False from eq_false (by omega)]
   refine ae.ok (gl l (fun v=> !decide (v.kind=k)) _ _ nn _ hl fun v _=>uT v k _ _ (by simp)) ?_
   cases h3:l.any (fun v=> !decide (v.kind=k))with
   |true=>
    simp -implicitDefEqProofs only[↓reduceIte,go_sem,Nat.reduceLT]
    refine an.ret ?_
    simp -implicitDefEqProofs only[↓reduceIte,go_sem,Nat.reduceLT,bj,h1,h2,h3,Bool.false_eq_true]
   |false=>
    simp -implicitDefEqProofs only[↓reduceIte,go_sem,Nat.reduceLT,Nat.reduceEqDiff,reduceCtorEq]
    refine ae.ok (gl l (fun v=> !fo v) _ _ nn _ hl fun v _=>tN v _) ?_
    cases h4:l.any (fun v=> !fo v)with
    |true=>
     simp -implicitDefEqProofs only[↓reduceIte,go_sem,Nat.reduceLT]
     refine an.ret ?_
     simp -implicitDefEqProofs only[↓reduceIte,go_sem,Nat.reduceLT,bj,h1,h2,h3,h4,Bool.false_eq_true]
    |false=>
     simp -implicitDefEqProofs only[↓reduceIte,go_sem,Nat.reduceLT]
     refine an.ret ?_
     simp -implicitDefEqProofs only[↓reduceIte,go_sem,Nat.reduceLT,bj,h1,h2,h3,h4,Bool.false_eq_true]
def ka(n:Int):Nat:=if 0≤n then(2* n).toNat else(-2* n-1).toNat
theorem zz(n:Int):IntKind.u64.wrap n=n%18446744073709551616:=by simp[IntKind.wrap,IntKind.signed,IntKind.bits]
theorem GZ(c:Nat)(h:c<18446744073709551616):c^^^18446744073709551615=18446744073709551615-c:=by
 have:=Nat.testBit_two_pow_sub_succ (x:=c) (n:=64) h
 apply Nat.eq_of_testBit_eq
 intro i
 rw[Nat.testBit_xor]
 have h2:=this i
 rw[show 2^64-(c+1)=18446744073709551615-c from by omega]at h2
 rw[h2]
 have h3:(18446744073709551615:Nat).testBit i=decide (i<64):=by
  have:=Nat.testBit_two_pow_sub_one 64 i
  simpa using this
 rw[h3]
 by_cases hi:i<64
 ·simp[hi]
 ·have h5:2^64≤2^i:=Nat.pow_le_pow_right (by omega) (by omega)
  have:c.testBit i=false:=Nat.testBit_lt_two_pow (by omega)
  simp[hi,this]
theorem FE(n:Int)(h1:-9223372036854775808≤n)(h2:n≤9223372036854775807):
  IntKind.u64.wrap (HJ .u64 (IntKind.u64.wrap (xz .u64 (IntKind.u64.wrap n) 1)) (IntKind.u64.wrap (lE .i64 n 63)))=((ka n:Nat):Int):=by
 have s1:xz .u64 (IntKind.u64.wrap n) 1=IntKind.u64.wrap n* 2:=by simp[xz,IntKind.bits]
 have s2:lE .i64 n 63=n.fdiv 9223372036854775808:=by simp[lE,IntKind.bits]
 rw[s1,s2]
 by_cases h:0≤n
 ·have e1:IntKind.u64.wrap (IntKind.u64.wrap n* 2)=(((2* n).toNat:Nat):Int):=by rw[zz,zz];omega
  have e2:IntKind.u64.wrap (n.fdiv 9223372036854775808)=((0:Nat):Int):=by
   rw[show n.fdiv 9223372036854775808=0 from by rw[Int.fdiv_eq_ediv_of_nonneg _ (by decide)];omega];rfl
  rw[e1,e2]
  have e:=bits_xor_u64_nat (2* n).toNat 0 (by omega) (by omega)
  rw[Nat.xor_zero]at e
  unfold ka
  rw[if_pos h]
  exact e
 ·have e1:IntKind.u64.wrap (IntKind.u64.wrap n* 2)=(((2* n+18446744073709551616).toNat:Nat):Int):=by rw[zz,zz];omega
  have e2:IntKind.u64.wrap (n.fdiv 9223372036854775808)=((18446744073709551615:Nat):Int):=by
   rw[show n.fdiv 9223372036854775808=-1 from by rw[Int.fdiv_eq_ediv_of_nonneg _ (by decide)];omega];rfl
  rw[e1,e2]
  have e:=bits_xor_u64_nat (2* n+18446744073709551616).toNat 18446744073709551615 (by omega) (by omega)
  rw[GZ _ (by omega)]at e
  unfold ka
  rw[if_neg h,show(-2* n-1).toNat=18446744073709551615-(2* n+18446744073709551616).toNat from by omega]
  exact e
theorem oH(n:Int)(h1:-9223372036854775808≤n)(h2:n≤9223372036854775807)(H:aa):ag Tryz.prog 165 [iA n] H (.ok (du (ka n))) H:=by
 refine ag.ai (hint:=(fun _=>false)) Tryz.func165 (by kernel_rfl) rfl [2] (by kernel_rfl) (by decide) (by simp[Tryz.ntmps165]) ?_
 rw[Tryz.ntmps165]
 simp -implicitDefEqProofs only[↓reduceIte,go_sem,Nat.reduceLT,Nat.reduceEqDiff,Int.reduceLE,reduceCtorEq,FE n h1 h2]
 refine an.aI ?_
 simp -implicitDefEqProofs only[↓reduceIte,go_sem,Nat.reduceLT]
def dw(n:Nat):Nat:=if n=0 then 0 else n.log2+1
theorem eU(n w:Nat):dw n≤w↔n<2^w:=by
 unfold dw
 split
 ·subst_vars;simp[Nat.two_pow_pos]
 ·rename_i h
  rw[←Nat.log2_lt h];omega
theorem oM(n k:Nat)(h:2^k≤n):dw n=k+dw (n/2^k):=by
 have key:∀w,dw n≤w↔k+dw (n/2^k)≤w:=by
  intro w
  rcases Nat.lt_or_ge w k with hw|hw
  ·rw[eU]
   have:2^w≤2^k:=Nat.pow_le_pow_right (by omega) (by omega)
   omega
  ·rw[show(k+dw (n/2^k)≤w)=(dw (n/2^k)≤w-k)from propext ⟨fun h=>by omega,fun h=>by omega⟩,eU,eU,Nat.div_lt_iff_lt_mul (Nat.two_pow_pos k),←Nat.pow_add,Nat.sub_add_cancel hw]
 exact Nat.le_antisymm ((key _).2 (Nat.le_refl _)) ((key _).1 (Nat.le_refl _))
theorem Ay{n:Nat}(h:n<18446744073709551616):dw n≤64:=(eU n 64).2 h
theorem GW:∀n,n<256→∀b:ByteArray,b.data.toList=(List.range 256).map (fun n=>UInt8.ofNat (dw n))→b[n]?=some (UInt8.ofNat (dw n)):=by
 intro n hn b hb
 have:b.data[n]?=some (UInt8.ofNat (dw n)):=by
  rw[←Array.getElem?_toList,hb];simp[hn]
 obtain⟨h1,h2⟩:=Array.getElem?_eq_some_iff.1 this
 rw[getElem?_pos b n h1]
 exact congrArg some h2
theorem Bu{n:Nat}(h:n<256):(UInt8.ofNat (dw n)).toNat=dw n:=by
 have:dw n≤8:=(eU n 8).2 h
 simp;omega
theorem nd(n:Nat):(4294967296≤n→dw n=32+dw (n/4294967296))∧(65536≤n→dw n=16+dw (n/65536))∧(256≤n→dw n=8+dw (n/256)):=
 ⟨oM n 32,oM n 16,oM n 8⟩
theorem pd(n:Nat)(hn:n<18446744073709551616)(H:aa):ag Tryz.prog 207 [du n] H (.ok (iA (dw n))) H:=by
 have s32:∀n:Nat,lE .u64 (n:Int) 32=((n/4294967296:Nat):Int):=fun n=>uW n 32 (by decide)
 have s16:∀n:Nat,lE .u64 (n:Int) 16=((n/65536:Nat):Int):=fun n=>uW n 16 (by decide)
 have s8:∀n:Nat,lE .u64 (n:Int) 8=((n/256:Nat):Int):=fun n=>uW n 8 (by decide)
 have w48:IntKind.i64.wrap 48=48:=rfl
 have w56:IntKind.i64.wrap 56=56:=rfl
 have w40:IntKind.i64.wrap 40=40:=rfl
 have w24:IntKind.i64.wrap 24=24:=rfl
 have w16:IntKind.i64.wrap 16=16:=rfl
 have w8:IntKind.i64.wrap 8=8:=rfl
 have fin:∀(r:Int) (q m:Nat),r=(q:Int)→q≤56→m<256→IntKind.i64.wrap (r+IntKind.i64.wrap ((dw m:Nat):Int))=((q+dw m:Nat):Int):=fun r q m h0 hr hm=>by
  have:=(eU m 8).2 hm
  rw[wrap64_in (dw m:Int) (by omega) (by omega),wrap64_in _ (by omega) (by omega)]
  omega
 refine ag.ai (hint:=(fun _=>false)) Tryz.func207 (by kernel_rfl) rfl [2] (by kernel_rfl) (by decide) (by simp[Tryz.ntmps207]) ?_
 rw[Tryz.ntmps207]
 simp -implicitDefEqProofs only[↓reduceIte,go_sem,Nat.reduceLT,reduceCtorEq]
 by_cases h:(4294967296:Int)≤(n:Int)
 all_goals first
  |(have e1:=(nd n).1 (by omega)
    simp -implicitDefEqProofs only[↓reduceIte,go_sem,Nat.reduceLT,Int.reduceLE,reduceCtorEq,h,s32]
    have hn1:n/4294967296<4294967296:=by omega
    generalize n/4294967296=n1 at e1 hn1⊢)
  |(simp -implicitDefEqProofs only[↓reduceIte,go_sem,Nat.reduceLT,reduceCtorEq,h]
    obtain⟨n1,g1⟩:∃n1,n1=n:=⟨_,rfl⟩
    have hn1:n1<4294967296:=by omega
    have e1:dw n=0+dw n1:=by rw[g1];omega
    rw[←g1])
 all_goals
  by_cases h2:(65536:Int)≤(n1:Int)
  all_goals first
   |(have e2:=(nd n1).2.1 (by omega)
     simp -implicitDefEqProofs only[↓reduceIte,go_sem,Nat.reduceLT,Nat.reduceEqDiff,Int.reduceLE,Int.reduceAdd,reduceCtorEq,h2,s16,w48]
     have hn2:n1/65536<65536:=by omega
     generalize n1/65536=n2 at e2 hn2⊢)
   |(simp -implicitDefEqProofs only[↓reduceIte,go_sem,Nat.reduceLT,reduceCtorEq,h2]
     obtain⟨n2,g2⟩:∃n2,n2=n1:=⟨_,rfl⟩
     have hn2:n2<65536:=by omega
     have e2:dw n1=0+dw n2:=by rw[g2];omega
     rw[←g2])
  all_goals
   by_cases h3:(256:Int)≤(n2:Int)
   all_goals first
    |(have e3:=(nd n2).2.2 (by omega)
      simp -implicitDefEqProofs only[↓reduceIte,go_sem,Nat.reduceLT,Nat.reduceEqDiff,Int.reduceLE,Int.reduceAdd,reduceCtorEq,h3,s8,w56,w40,w24,w16,w8]
      have hn3:n2/256<256:=by omega
      generalize n2/256=n3 at e3 hn3⊢)
    |(simp -implicitDefEqProofs only[↓reduceIte,go_sem,Nat.reduceLT,Nat.reduceEqDiff,reduceCtorEq,h3]
      obtain⟨n3,g3⟩:∃n3,n3=n2:=⟨_,rfl⟩
      have hn3:n3<256:=by omega
      have e3:dw n2=0+dw n3:=by rw[g3];omega
      rw[←g3])
   all_goals
    simp -implicitDefEqProofs only[go_sem,rU n3 hn3]
    rw[GW n3 hn3 _ (by kernel_rfl)]
    simp -implicitDefEqProofs only[↓reduceIte,go_sem,Nat.reduceLT,Nat.reduceEqDiff,Bu hn3]
    refine an.aI ?_
    have f0:=fin 0 0 n3 rfl (by decide) hn3
    have f8:=fin 8 8 n3 rfl (by decide) hn3
    have f16:=fin 16 16 n3 rfl (by decide) hn3
    have f24:=fin 24 24 n3 rfl (by decide) hn3
    have f32:=fin 32 32 n3 rfl (by decide) hn3
    have f40:=fin 40 40 n3 rfl (by decide) hn3
    have f48:=fin 48 48 n3 rfl (by decide) hn3
    have f56:=fin 56 56 n3 rfl (by decide) hn3
    simp -implicitDefEqProofs only[↓reduceIte,go_sem,Nat.reduceLT,w16,f0,f8,f16,f24,f32,f40,f48,f56]
    all_goals
     refine congrArg (fun m:Nat=>iA m) ?_
     first|omega|(simp only[e1,e2,e3];omega)
def us(l:List Nat):List (List D):=l.map fun(n:Nat)=>[.v (.int .u64 (n:Int))]
def dW(l:List Nat):List (List D):=l.map fun(n:Nat)=>[.v (.int .u8 (n:Int))]
theorem mW(l:List Nat):(us l).length=l.length:=by simp[us]
theorem bP(l:List Nat):(dW l).length=l.length:=by simp[dW]
theorem Gv:us []=[]:=rfl
theorem zA:dW []=[]:=rfl
theorem Cj(l:List Nat)(k:Nat)(h:k<l.length):(us l)[k]?=some [.v (.int .u64 (l[k]:Int))]:=by simp[us,h]
theorem zp(l:List Nat)(n:Nat):us l++[[.v (.int .u64 (n:Int))]]=us (l++[n]):=by simp[us]
theorem mb(l:List Nat)(n:Nat):dW l++[[.v (.int .u8 (n:Int))]]=dW (l++[n]):=by simp[dW]
theorem jb(l m:List Nat):dW l++dW m=dW (l++m):=by simp[dW]
theorem Eu(l:List Nat)(k n:Nat):(dW l).set k [.v (.int .u8 (n:Int))]=dW (l.set k n):=by simp[dW,List.map_set]
theorem gD(l:List Nat):(∀c∈dW l,c.length=1)=True:=eq_true fun c hc=>by obtain⟨x,_,rfl⟩:=List.mem_map.1 hc;rfl
end Go.Proofs.YtggohfhfocgilaaGreat

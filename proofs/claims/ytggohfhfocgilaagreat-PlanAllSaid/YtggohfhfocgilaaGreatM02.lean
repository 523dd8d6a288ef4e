/- Contracts of functions and lemmas for planAll_holds, part 2. -/
import Derived.Maps.RangeRun
import Derived.Laws.BytesString
import Derived.Test.YtggohfhfocgilaaGreatM01
set_option maxHeartbeats 8000000
set_option maxRecDepth 100000
set_option linter.all false
namespace Go.Proofs.YtggohfhfocgilaaGreatAw
open Go.RowKit
def MT(P:Program)(t:TypeId):Option (IntKind×TypeId×TypeId):=
 match P.underlying t with
 |some (.map k e)=>(match P.underlying k with|some (.int kk)=>some (kk,k,e)|_=>none)
 |_=>none
theorem MT.get{P:Program}{t k e:TypeId}{kk:IntKind}(h:MT P t=some (kk,k,e)):P.underlying t=some (.map k e)∧P.underlying k=some (.int kk):=by
 unfold MT at h
 split at h
 ·rename_i k' e' hk
  split at h
  ·rename_i kk' hkk
   cases h
   exact⟨hk,hkk⟩
  ·cases h
 ·cases h
def fz(n:Int):List (Int×AV)→Nat→Option (Nat×AV)
 |[],_=>none
 |(m,v)::r,i=>if n=m then some (i,v)else fz n r (i+1)
def ed(n:Int)(es:List (Int×AV)):Option AV:=(fz n es 0).map (·.2)
def j6(n:Int)(v:AV)(es:List (Int×AV)):List (Int×AV):=match fz n es 0 with|some (i,_)=>es.set i (n,v)|none=>es++[(n,v)]
theorem jI{kk:IntKind}{n:Int}{R:AV→Value→Prop}:∀(es:List (Int×AV)) (l:List MapEntry) (i:Nat),l.length=es.length→
  (∀j (h1:j<es.length) (h2:j<l.length),(l[j]).key= .int kk (es[j]).1∧R (es[j]).2 (l[j]).val)→
  (fz n es i=none∧Instr.findNow (.int kk) (.int kk n) l i=some none)∨
  ∃j av x,j<es.length∧fz n es i=some (i+j,av)∧es[j]?=some (n,av)∧Instr.findNow (.int kk) (.int kk n) l i=some (some (i+j,x))∧R av x
 |[],[],i,_,_=> .inl ⟨rfl,rfl⟩
 |[],_::_,i,h,_=>by simp at h
 |_::_,[],i,h,_=>by simp at h
 |(m,v)::es,e::l,i,h,hh=>by
  have h0:=hh 0 (by simp) (by simp)
  simp only[List.getElem_cons_zero]at h0
  have hbf:n≠m→(n==m)=false:=fun h=>by simpa using h
  by_cases hn:n=m
  ·subst hn
   refine .inr ⟨0,v,e.val,by simp,by simp[fz],by simp,?_,h0.2⟩
   simp[Instr.findNow,Instr.sameNow,h0.1]
  ·rcases jI (kk:=kk) (n:=n) (R:=R) es l (i+1) (by simpa using h) (fun j h1 h2=>by
    have:=hh (j+1) (by simpa using h1) (by simpa using h2)
    simpa using this)with⟨h1,h2⟩|⟨j,av,x,hj,h1,h2,h3,h4⟩
   ·refine .inl ⟨by simp[fz,hn,h1],?_⟩
    simp[Instr.findNow,Instr.sameNow,h0.1,hbf hn,h2]
   ·refine .inr ⟨j+1,av,x,by simpa using hj,by simp[fz,hn,h1];omega,by simpa using h2,?_,h4⟩
    simp[Instr.findNow,Instr.sameNow,h0.1,hbf hn,h3];omega
section
variable {P:Program} {o:Oper} {a:Act} {w:World} {H:aa} {φ:aK} {N:Addr→Prop} {s:Nat→AV}
theorem wA(hR:Rel H φ N w)(t:TypeId)(ho:o.op= .makeMap t none)(kk:IntKind)(kt e:TypeId)(ht:MT P t=some (kk,kt,e)):bW P o a w H φ N (.mp H.length) (H++[.mp kk []]):=by
 have hS:=au.new hR (.map #[] 0) (.mp kk []) 0
 refine⟨.map (some w.heap.size),w.alloc (.map #[] 0),_,N,.inl ?_,hR.new (.map #[] 0) (.mp kk []) 0 ?_,hS,?_⟩
 ·simp[execOp,ho,Instr.makeMap,Result.andThen]
 ·exact .mp kk [] w.heap.size 0 #[] 0 (aK.aD _ _ _) (heap_alloc_new w _) rfl rfl (fun j hj=>by simp at hj) (fun j hj=>by simp at hj)
 ·exact .mp H.length w.heap.size 0 kk [] (by simp) (aK.aD _ _ _)
theorem sD(hR:Rel H φ N w){x:AV}{v:Value}{id:Nat}{kk:IntKind}{es:List (Int×AV)}(hx:RA H φ N w (.mp id) v)(hob:H[id]?=some (.mp kk es)):
  ∃B c ents clock,v= .map (some B)∧φ id=some (B,c)∧w.heap[B]?=some (.map ents clock)∧ents.size=es.length∧(clock=ents.size∧∀j (hj:j<ents.size),(ents[j]).born=j)∧
   ∀j (hj:j<es.length) (hj2:j<ents.size),(ents[j]).key= .int kk (es[j]).1∧RA H φ N w (es[j]).2 (ents[j]).val:=by
 cases hx with
 |mp _ B c kk' es' ho' hp=>
 have h:=hR.obj id _ hob
 cases h with
 |mp _ _ B' cap ents clock hp' hb hs hck hbn hh=>
 rw[hp]at hp';cases hp'
 exact⟨B,_,ents,clock,rfl,hp,hb,hs,⟨hck,hbn⟩,hh⟩
theorem fA{kk:IntKind}{kt:TypeId}(h:P.underlying kt=some (.int kk))(e:Bool)(n:Int):(Instr.checkKey e 10000 kt (.int kk n)).run P w= .ok () w:=by
 show(Instr.checkKey e (9999+1) kt (.int kk n)).run P w= .ok () w
 unfold Instr.checkKey
 simp only[Sem.run_bind,run_underlying h,Result.andThen]
 rfl
theorem gB{kk:IntKind}{kt:TypeId}(h:P.underlying kt=some (.int kk)){k:Value}{l:List MapEntry}{r:Option (Nat×Value)}(hr:Instr.findNow (.int kk) k l 0=some r):(Instr.findKey kt k l).run P w= .ok r w:=by
 simp[Instr.findKey,run_underlying h,Result.andThen,hr]
theorem Ad(hR:Rel H φ N w)(hT:bI H φ N w s a)(t:TypeId)(x ix:Operand)(ok:Bool)(ho:o.op= .lookup t x ix ok)(kk:IntKind)(kt e:TypeId)(ht:MT P t=some (kk,kt,e))(z:Value)(k b:Nat)(hi:TI P e=some (z,k,b))
  (id:Nat) (es:List (Int×AV)) (hx:ah s x= .mp id) (hob:H[id]?=some (.mp kk es)) (n:Int) (hix:closed (ah s ix)=some (.int kk n)):
  bW P o a w H φ N (if ok then .a7 [(ed n es).getD (bT z),.d (.v (.bool (ed n es).isSome))]else(ed n es).getD (bT z)) H:=by
 obtain⟨hm,hk⟩:=MT.get ht
 have hix':=bC (ar hT ix) hix
 have hx':=ar hT x
 rw[hx]at hx'
 obtain⟨B,c,ents,clock,hv,hp,hb,hs,hbn,hh⟩:=sD (x:= .top) hR hx' hob
 have hg:(getObj B).run P w= .ok (.map ents clock) w:=by simp[getObj,Sem.run,hb]
 have a7:∀(r:AV) (v:Value) (g:Bool),RA H φ N w r v→RA H φ N w (if ok then .a7 [r,.d (.v (.bool g))]else r) (if ok then .tuple #[v,.bool g]else v):=by
  intro r v g hr
  cases ok with
  |false=>simpa using hr
  |true=>
   simp only[if_true]
   refine .a7 _ _ rfl fun i h1 h2=>?_
   match i,h1 with
   |0,_=>simpa using hr
   |1,_=>simpa using RA.d (.v (.bool g) rfl)
 rcases jI (kk:=kk) (n:=n) (R:=RA H φ N w) es ents.toList 0 (by simpa using hs) (fun j h1 h2=>by simpa using hh j h1 (by simpa using h2))with⟨h1,h2⟩|⟨j,av,y,hj,h1,h2,h3,h4⟩
 ·have hG:ed n es=none:=by simp[ed,h1]
  rw[hG]
  refine .same hR (a7 _ _ false (dJ z)) ?_
  simp only[execOp,ho,Instr.lookup,hv,hix',Sem.run_bind,run_underlying hm,Result.andThen_ok,hg,Sem.run_pure,fA hk,gB hk h2,TI.zero hi]
 ·have hG:ed n es=some av:=by simp[ed,h1]
  rw[hG]
  refine .same hR (a7 _ _ true h4) ?_
  simp only[execOp,ho,Instr.lookup,hv,hix',Sem.run_bind,run_underlying hm,Result.andThen_ok,hg,Sem.run_pure,fA hk,gB hk h3]
theorem rZ(kk:IntKind)(n:Int):(Instr.keyThatStays (.int kk n) (.int kk n)).run P w= .ok (.int kk n) w:=by
 unfold Instr.keyThatStays
 have:Instr.sameBits 10000 (.int kk n) (.int kk n)=true:=by simp[Instr.sameBits]
 simp[this]
theorem mi(hR:Rel H φ N w)(hT:bI H φ N w s a)(t:TypeId)(x ix y:Operand)(ho:o.op= .mapUpdate t x ix y∨o.op= .insert t x ix y)(kk:IntKind)(kt e:TypeId)(ht:MT P t=some (kk,kt,e))
  (id:Nat) (es:List (Int×AV)) (hx:ah s x= .mp id) (hob:H[id]?=some (.mp kk es)) (n:Int) (hix:closed (ah s ix)=some (.int kk n)):
  bW P o a w H φ N .top (H.set id (.mp kk (j6 n (ah s y) es))):=by
 obtain⟨hm,hk⟩:=MT.get ht
 have hix':=bC (ar hT ix) hix
 have hx':=ar hT x
 rw[hx]at hx'
 obtain⟨B,c,ents,clock,hv,hp,hb,hs,hbn,hh⟩:=sD (x:= .top) hR hx' hob
 have hg:(getObj B).run P w= .ok (.map ents clock) w:=by simp[getObj,Sem.run,hb]
 have hlt:B<w.heap.size:=(Array.getElem?_eq_some_iff.1 hb).1
 have set:∀(ents':Array MapEntry) (clock':Nat) (es':List (Int×AV)),ents'.size=es'.length→clock'=ents'.size→(∀j (hj:j<ents'.size),(ents'[j]).born=j)→
   (∀j (hj:j<es'.length) (hj2:j<ents'.size),(ents'[j]).key= .int kk (es'[j]).1∧RA H φ N w (es'[j]).2 (ents'[j]).val)→
   Rel (H.set id (.mp kk es')) φ N {w with heap:=w.heap.setIfInBounds B (.map ents' clock')}∧au H φ N w (H.set id (.mp kk es')) φ N {w with heap:=w.heap.setIfInBounds B (.map ents' clock')}:=by
  intro ents' clock' es' hl hck' hbn' hh'
  have h5:∀k,k≠B→(w.heap.setIfInBounds B (.map ents' clock'))[k]?=w.heap[k]?:=fun k hne=>by simp[Ne.symm hne]
  have hS:au H φ N w (H.set id (.mp kk es')) φ N {w with heap:=w.heap.setIfInBounds B (.map ents' clock')}:=
   au.set hob hp rfl rfl rfl (fun kk' es'' he=>by cases he;exact⟨_,rfl⟩) rfl rfl rfl (by simp) h5
  refine⟨hR.set hob hp hS h5 ?_,hS⟩
  exact .mp kk es' B c ents' clock' hp (by simp[hlt]) hl hck' hbn' fun j hj hj2=>⟨(hh' j hj hj2).1,(hh' j hj hj2).2.since hR hS⟩
 have run:∀ob,(setObj B ob).run P w= .ok () {w with heap:=w.heap.setIfInBounds B ob}:=fun ob=>by simp[setObj,Sem.run,hb]
 have hy:=ar hT y
 rcases jI (kk:=kk) (n:=n) (R:=RA H φ N w) es ents.toList 0 (by simpa using hs) (fun j h1 h2=>by simpa using hh j h1 (by simpa using h2))with⟨h1,h2⟩|⟨j,av,y',hj,h1,h2,h3,h4⟩
 ·have hP:j6 n (ah s y) es=es++[(n,ah s y)]:=by simp[j6,h1]
  rw[hP]
  obtain⟨hR',hS'⟩:=set (ents.push {key:= .int kk n,val:=a.eval y,born:=clock}) (clock+1) (es++[(n,ah s y)]) (by simp[hs]) (by simp[hbn.1]) (fun j hj=>by
   rw[Array.getElem_push]
   split
   ·exact hbn.2 j _
   ·rename_i h;simp at hj;show clock=j;rw[hbn.1];omega) (fun j hj hj2=>by
   by_cases e:j<es.length
   ·rw[List.getElem_append_left e,Array.getElem_push_lt (by omega)]
    exact hh j e (by omega)
   ·have e':j=es.length:=by simp at hj;omega
    subst e'
    have:es.length=ents.size:=hs.symm
    simp only[List.getElem_concat_length,Array.getElem_push,this]
    simp
    exact hy)
  refine⟨undef,_,φ,N,.inr ⟨?_,rfl⟩,hR',hS',.top _⟩
  rcases ho with ho|ho<;>simp only[execOp,ho,Instr.mapUpdate,hv,hix',Sem.run_bind,run_underlying hm,Result.andThen_ok,hg,Sem.run_pure,fA hk,gB hk h2,run]
 ·have hP:j6 n (ah s y) es=es.set j (n,ah s y):=by simp[j6,h1]
  rw[hP]
  have hj2:j<ents.size:=by omega
  have hn:(es[j]).1=n:=by
   rw[List.getElem?_eq_getElem hj]at h2
   have:=Option.some.inj h2
   rw[this]
  have hkey:(ents[j]).key= .int kk n:=by rw[(hh j hj hj2).1,hn]
  obtain⟨hR',hS'⟩:=set (ents.modify j fun e=>{e with key:= .int kk n,val:=a.eval y}) clock (es.set j (n,ah s y)) (by simp[hs]) (by simp[hbn.1]) (fun i hi=>by
   simp only[Array.getElem_modify]
   split
   ·exact hbn.2 i (by simpa using hi)
   ·exact hbn.2 i (by simpa using hi)) (fun i hi hi2=>by
   simp only[Array.getElem_modify,List.getElem_set]
   by_cases e:j=i
   ·simp only[if_pos e]
    exact⟨trivial,hy⟩
   ·simp only[if_neg e]
    exact hh i (by simpa using hi) (by simpa using hi2))
  refine⟨undef,_,φ,N,.inr ⟨?_,rfl⟩,hR',hS',.top _⟩
  have hget:((ents[j]?).map (·.key)).getD (.int kk n)= .int kk n:=by
   rw[Array.getElem?_eq_getElem hj2]
   simp[hkey]
  rw[Nat.zero_add]at h3
  rcases ho with ho|ho<;>simp only[execOp,ho,Instr.mapUpdate,hv,hix',Sem.run_bind,run_underlying hm,Result.andThen_ok,hg,Sem.run_pure,fA hk,gB hk h3,run,hget,rZ]
theorem yc(hR:Rel H φ N w)(hT:bI H φ N w s a)(x:Operand)(t:TypeId)(ho:o.op= .call {callee:= .builtin .len,args:=#[x],argTypes:=#[t]})(kk:IntKind)(kt e:TypeId)(ht:MT P t=some (kk,kt,e))
  (id:Nat) (es:List (Int×AV)) (hx:ah s x= .mp id) (hob:H[id]?=some (.mp kk es)):bW P o a w H φ N (.d (.v (.int .i64 es.length))) H:=by
 obtain⟨hm,hk⟩:=MT.get ht
 have hx':=ar hT x
 rw[hx]at hx'
 obtain⟨B,c,ents,clock,hv,hp,hb,hs,hbn,hh⟩:=sD (x:= .top) hR hx' hob
 have hg:(getObj B).run P w= .ok (.map ents clock) w:=by simp[getObj,Sem.run,hb]
 refine .same hR (.d (.v _ rfl)) ?_
 simp[execOp,ho,resolve,invoke,Go.builtin,Builtin.len_,hv,run_underlying hm,goInt,hg,hs]
theorem Cu(hR:Rel H φ N w)(hT:bI H φ N w s a)(t:TypeId)(x:Operand)(ho:o.op= .range t x)(kk:IntKind)(kt e:TypeId)(ht:MT P t=some (kk,kt,e))(id:Nat)(es:List (Int×AV))(hx:ah s x= .mp id)(hob:H[id]?=some (.mp kk es)):
  bW P o a w H φ N (.ptr H.length 0 0 0) (H++[.iter id es.length []]):=by
 obtain⟨hm,hk⟩:=MT.get ht
 have hx':=ar hT x
 rw[hx]at hx'
 obtain⟨B,c,ents,clock,hv,hp,hb,hs,hbn,hh⟩:=sD (x:= .top) hR hx' hob
 have hg:(getObj B).run P w= .ok (.map ents clock) w:=by simp[getObj,Sem.run,hb]
 have hc:clock=es.length:=by rw[hbn.1,hs]
 have hS:=au.new hR (.mapIter (some B) clock #[] clock) (.iter id es.length []) 0
 have hlt:id<H.length:=aj hob
 refine⟨.pointer (some ⟨w.heap.size,0,none⟩),w.alloc (.mapIter (some B) clock #[] clock),_,N,.inl ?_,hR.new (.mapIter (some B) clock #[] clock) (.iter id es.length []) 0 ?_,hS,?_⟩
 ·simp[execOp,ho,Instr.range,run_underlying hm,hv,hg,Result.andThen]
 ·refine .iter id es.length [] w.heap.size 0 B c kk es (aK.aD _ _ _) ?_ (by rw[List.getElem?_append_left hlt];exact hob) ((aK.aR _ _ _ _ (Nat.ne_of_lt hlt)).trans hp)
  rw[heap_alloc_new w _,hc]
 ·exact .ptr _ _ _ _ _ (.iter id es.length []) (by simp) (Nat.le_refl _) fun _=>⟨w.heap.size,0,aK.aD _ _ _,by simp[ay.k]⟩
theorem vz(hR:Rel H φ N w){v:Value}{id:Nat}{m since:Nat}{seen:List Nat}{kk:IntKind}{es:List (Int×AV)}(hx:RA H φ N w (.ptr id 0 0 0) v)(hob:H[id]?=some (.iter m since seen))(hm:H[m]?=some (.mp kk es)):
  ∃B c bm cm ents,v= .pointer (some ⟨B,0,none⟩)∧φ id=some (B,c)∧φ m=some (bm,cm)∧w.heap[B]?=some (.mapIter (some bm) since seen.toArray since)∧w.heap[bm]?=some (.map ents es.length)∧ents.size=es.length∧(∀j (hj:j<ents.size),(ents[j]).born=j)∧
   ∀j (hj:j<es.length) (hj2:j<ents.size),(ents[j]).key= .int kk (es[j]).1∧RA H φ N w (es[j]).2 (ents[j]).val:=by
 cases hx with
 |ptr _ _ _ _ A o' ho' hv' hp=>
 rw[hob]at ho';cases ho'
 obtain⟨B,c,h1,rfl⟩:=hp rfl
 have h:=hR.obj id _ hob
 cases h with
 |iter _ _ _ B' cap bm cm kk' es' hp' hb hm' hpm=>
 rw[h1]at hp';cases hp'
 rw[hm]at hm';cases hm'
 have g:=hR.obj m _ hm
 cases g with
 |mp _ _ B2 cap2 ents clock hp2 hb2 hs hck hbn hh=>
 rw[hpm]at hp2;cases hp2
 exact⟨B,_,bm,_,ents,by simp[ay.k],h1,hpm,hb,by rw[hb2,hck,hs],hs,hbn,hh⟩
theorem Cn(hR:Rel H φ N w)(hT:bI H φ N w s a)(x:Operand)(ho:o.op= .entry x)(id m:Nat)(seen:List Nat)(kk:IntKind)(es:List (Int×AV))(hx:ah s x= .ptr id 0 0 0)(hob:H[id]?=some (.iter m es.length seen))(hm:H[m]?=some (.mp kk es))
  (j:Nat) (hj:seen.getLast?=some j) (e:Int×AV) (he:es[j]?=some e):bW P o a w H φ N (.a7 [.d (.v (.int kk e.1)),e.2]) H:=by
 have hx':=ar hT x
 rw[hx]at hx'
 obtain⟨B,c,bm,cm,ents,hv,h1,h2,hb,hbm,hs,hbn,hh⟩:=vz hR hx' hob hm
 have hjl:=(List.getElem?_eq_some_iff.1 he).1
 have hee:es[j]=e:=(List.getElem?_eq_some_iff.1 he).2
 have hj2:j<ents.size:=by omega
 have hk:=hh j hjl hj2
 rw[hee]at hk
 have hborn:(ents[j]).born=j:=hbn j hj2
 have hnd:(ents.toList.map (·.born)).Nodup:=by
  have:ents.toList.map (·.born)=List.range ents.size:=by
   apply List.ext_getElem
   ·simp
   ·intro i h1 h2;simp at h1;simp[hbn i h1]
  rw[this];exact List.nodup_range
 obtain⟨pre,hpre⟩:∃pre,seen=pre++[j]:=by
  rw[List.getLast?_eq_some_iff]at hj
  exact hj
 have hrun:=run_entry_at (P:=P) w B bm es.length pre.toArray ents es.length (ents[j]) (by rw[hb,hpre,hborn];simp) hbm (by simp) hnd
 refine⟨.tuple #[(ents[j]).key,(ents[j]).val],w,φ,N,.inl ?_,hR,au.refl,?_⟩
 ·simp[execOp,ho,hv,hrun]
 ·refine .a7 _ _ rfl fun i h1 h2=>?_
  match i,h1 with
  |0,_=>show RA H φ N w (.d (.v (.int kk e.1))) (ents[j]).key;rw[hk.1];exact .d (.v _ rfl)
  |1,_=>exact hk.2
theorem En(hR:Rel H φ N w)(hT:bI H φ N w s a)(x:Operand)(ho:o.op= .next x false)(id m:Nat)(seen:List Nat)(kk:IntKind)(es:List (Int×AV))(hx:ah s x= .ptr id 0 0 0)(hob:H[id]?=some (.iter m es.length seen))(hm:H[m]?=some (.mp kk es)):
  ((∀j,j<es.length→j∈seen)∧bW P o a w H φ N (.a7 [.d (.v (.bool false))]) H)∨
  ∃j e,es[j]?=some e∧j∉seen∧bW P o a w H φ N (.a7 [.d (.v (.bool true)),.d (.v (.int kk e.1)),e.2]) (H.set id (.iter m es.length (seen++[j]))):=by
 have hx':=ar hT x
 rw[hx]at hx'
 obtain⟨B,c,bm,cm,ents,hv,h1,h2,hb,hbm,hs,hbn,hh⟩:=vz hR hx' hob hm
 have hold:∀y∈ents.toList,y.born<es.length:=fun y hy=>by
  obtain⟨i,hi,rfl⟩:=List.mem_iff_getElem.1 hy
  have hi':i<ents.size:=by simpa using hi
  have:=hbn i hi'
  simp only[Array.getElem_toList]
  omega
 rcases run_next_at (P:=P) w o.type B bm es.length es.length seen.toArray ents es.length hb hbm hold (Nat.le_refl _)with⟨h0,hrun⟩|⟨y,hy,w1,hw1,hrun⟩
 ·left
  refine⟨fun j hj=>?_,.tuple #[.bool false],w,φ,N,.inl ?_,hR,au.refl,?_⟩
  ·have hj2:j<ents.size:=by omega
   have hE:leftOf ents seen.toArray=#[]:=Array.eq_empty_of_size_eq_zero h0
   unfold leftOf at hE
   rw[Array.filter_eq_empty_iff]at hE
   have:=hE (ents[j]) (by simp)
   rw[hbn j hj2]at this
   simpa using this
  ·simp[execOp,ho,hv,hrun]
  ·refine .a7 _ _ rfl fun i h1 h2=>?_
   match i,h1 with
   |0,_=>exact .d (.v _ rfl)
 ·right
  unfold leftOf at hy
  simp only[Array.mem_toList_iff,Array.mem_filter]at hy
  obtain⟨hy1,hy2⟩:=hy
  obtain⟨j,hj2,rfl⟩:=Array.mem_iff_getElem.1 hy1
  have hjl:j<es.length:=by omega
  have hborn:=hbn j hj2
  rw[hborn]at hy2 hrun
  have hk:=hh j hjl hj2
  have hns:j∉seen:=by simpa using hy2
  have hd:w1.heap=w.heap∧w1.os=w.os∧w1.tape=w.tape∧w1.output=w.output:=by rcases hw1 with rfl|rfl<;>exact⟨rfl,rfl,rfl,rfl⟩
  obtain⟨d1,d2,d3,d4⟩:=hd
  have hR1:=hR.drawn d1 d2 d3 d4
  have hS1:au H φ N w H φ N w1:=au.drawn d1 d2 d3 d4
  have hlt:B<w1.heap.size:=by rw[d1];exact(Array.getElem?_eq_some_iff.1 hb).1
  have h5:∀k,k≠B→(ChangeMaps.setBlock w1 B (.mapIter (some bm) es.length (seen.toArray.push j) es.length)).heap[k]?=w1.heap[k]?:=fun k hne=>by simp[ChangeMaps.setBlock,Ne.symm hne]
  have hmi:m≠id:=fun h=>by subst h;rw[hob]at hm;cases hm
  have hS2:au H φ N w1 (H.set id (.iter m es.length (seen++[j]))) φ N (ChangeMaps.setBlock w1 B (.mapIter (some bm) es.length (seen.toArray.push j) es.length)):=
   au.set hob h1 rfl rfl rfl (fun kk' es'' he=>by cases he) rfl rfl rfl (by simp[ChangeMaps.setBlock]) h5
  refine⟨j,es[j],List.getElem?_eq_getElem hjl,hns,.tuple #[.bool true,(ents[j]).key,(ents[j]).val],_,φ,N,.inl ?_,hR1.set hob h1 hS2 h5 ?_,hS1.trans hS2,?_⟩
  ·simp[execOp,ho,hv,hrun]
  ·refine .iter m es.length (seen++[j]) B c bm cm kk es h1 ?_ (by rw[List.getElem?_set_ne (Ne.symm hmi)];exact hm) h2
   simp[ChangeMaps.setBlock,hlt]
  ·refine .a7 _ _ rfl fun i g1 g2=>?_
   match i,g1 with
   |0,_=>exact .d (.v _ rfl)
   |1,_=>show RA _ _ _ _ (.d (.v (.int kk (es[j]).1))) (ents[j]).key;rw[hk.1];exact .d (.v _ rfl)
   |2,_=>exact(hk.2.since hR hS1).since hR1 hS2
def fq(P:Program)(t:TypeId):Bool:=match P.underlying t with|some (.pointer _)=>true|_=>false
theorem fq.get{t:TypeId}(h:fq P t=true):∃e,P.underlying t=some (.pointer e):=by
 unfold fq at h
 split at h
 ·exact⟨_,by assumption⟩
 ·cases h
def gW(P:Program)(t:TypeId):AV→Bool
 | .d (.v (.slice none 0 0))=>(SE P t).isSome
 | .d (.v (.pointer none))=>fq P t
 |_=>false
def known(P:Program)(H:aa)(t:TypeId):AV→Bool
 | .d (.list nn es)=>(SE P t).isSome&&(nn|| !es.isEmpty)
 | .sl id ver _ len=>(SE P t).isSome&&(0<len&&(match H[id]? with|some o=>o.ver==ver|none=>false))
 | .ptr id ver _ _=>fq P t&&(match H[id]? with|some o=>o.ver==ver|none=>false)
 | .cc _=>fq P t
 |_=>false
def ox:BinOp→Bool
 | .neq=>true
 |_=>false
def lg(P:Program)(H:aa)(op:BinOp)(t:TypeId)(x y:AV):Bool:=(match op with| .eql| .neq=>true|_=>false)&&((gW P t y&&known P H t x)||(gW P t x&&known P H t y))
theorem qN{x:AV}{v:Value}{t:TypeId}(hx:RA H φ N w x v)(h:gW P t x=true):(v= .slice none 0 0∧∃e,P.underlying t=some (.slice e))∨(v= .pointer none∧∃e,P.underlying t=some (.pointer e)):=by
 unfold gW at h
 split at h
 ·obtain⟨e,he⟩:=Option.isSome_iff_exists.1 h
  exact .inl ⟨hx.closed,e,SE.get he⟩
 ·exact .inr ⟨hx.closed,fq.get h⟩
 ·cases h
theorem uU{x:AV}{v:Value}(hx:RA H φ N w x v){t:TypeId}(h:known P H t x=true):(∃e ad l c,P.underlying t=some (.slice e)∧v= .slice (some ad) l c)∨∃e ad,P.underlying t=some (.pointer e)∧v= .pointer (some ad):=by
 unfold known at h
 split at h
 ·rename_i nn es
  simp only[Bool.and_eq_true,Bool.or_eq_true]at h
  obtain⟨e,he⟩:=Option.isSome_iff_exists.1 h.1
  cases hx with
  |d hd=>
   cases hd with
   |nil A c hA=>simp at h
   |list=>exact .inl ⟨e,_,_,_,SE.get he,rfl⟩
 ·rename_i id ver off len
  simp only[Bool.and_eq_true,decide_eq_true_eq]at h
  obtain⟨e,he⟩:=Option.isSome_iff_exists.1 h.1
  cases hx with
  |sl _ _ _ _ A l m o ho hv hp=>
   rw[ho]at h
   simp only[beq_iff_eq]at h
   obtain⟨_,_,h2⟩:=hp h.2.2.symm
   rcases h2 with⟨_,h3,_⟩|⟨B,c,_,_,rfl,_⟩
   ·omega
   ·exact .inl ⟨e,_,_,_,SE.get he,rfl⟩
 ·rename_i id ver i j
  simp only[Bool.and_eq_true]at h
  obtain⟨e,he⟩:=fq.get h.1
  cases hx with
  |ptr _ _ _ _ A o ho hv hp=>
   rw[ho]at h
   simp only[beq_iff_eq]at h
   obtain⟨B,c,_,rfl⟩:=hp h.2.symm
   exact .inr ⟨e,_,he,rfl⟩
 ·obtain⟨e,he⟩:=fq.get h
  cases hx with
  |cc=>exact .inr ⟨e,_,he,rfl⟩
 ·cases h
theorem Er(d:Nat)(t e:TypeId)(ad:Addr)(l c:Nat)(h:P.underlying t=some (.slice e))(w:World):(Op.equalIn (d+1) t (.slice (some ad) l c) (.slice none 0 0)).run P w= .ok false w:=by simp[Op.equalIn,run_underlying h]
theorem DT(d:Nat)(t e:TypeId)(ad:Addr)(l c:Nat)(h:P.underlying t=some (.slice e))(w:World):(Op.equalIn (d+1) t (.slice none 0 0) (.slice (some ad) l c)).run P w= .ok false w:=by simp[Op.equalIn,run_underlying h]
theorem Es(d:Nat)(t e:TypeId)(ad:Addr)(h:P.underlying t=some (.pointer e))(w:World):(Op.equalIn (d+1) t (.pointer (some ad)) (.pointer none)).run P w= .ok false w:=by simp[Op.equalIn,run_underlying h]
theorem Et(d:Nat)(t e:TypeId)(ad:Addr)(h:P.underlying t=some (.pointer e))(w:World):(Op.equalIn (d+1) t (.pointer none) (.pointer (some ad))).run P w= .ok false w:=by simp[Op.equalIn,run_underlying h]
theorem sn(t:TypeId)(u v:Value)(x y:Operand)(op:BinOp)(hop:op= .eql∨op= .neq)(hs:(∃A l c A' l' c',u= .slice A l c∧v= .slice A' l' c')∨∃A A',u= .pointer A∧v= .pointer A')(h:∀w,(Op.equalIn 10000 t u v).run P w= .ok false w):
  (do eqGuard op t x y u v;Go.binOp op t u v:Sem Value).run P w= .ok (.bool (ox op)) w:=by
 have hg:(eqGuard op t x y u v).run P w= .ok () w:=by
  rcases hs with⟨A,l,c,A',l',c',rfl,rfl⟩|⟨A,A',rfl,rfl⟩<;>rcases hop with rfl|rfl<;>simp[eqGuard]
 rw[Sem.run_bind,hg]
 simp only[Result.andThen_ok]
 have he:(Op.equal t u v).run P w= .ok false w:=h w
 rcases hs with⟨A,l,c,A',l',c',rfl,rfl⟩|⟨A,A',rfl,rfl⟩<;>rcases hop with rfl|rfl<;>simp only[binOp]<;>simp[he,ox]
theorem BJ(hR:Rel H φ N w)(hT:bI H φ N w s a)(op:BinOp)(t ty:TypeId)(x y:Operand)(ho:o.op= .binOp op t x y ty)(h:lg P H op t (ah s x) (ah s y)=true):
  bW P o a w H φ N (.d (.v (.bool (ox op)))) H:=by
 refine .same hR (x:= .bool (ox op)) (.d (.v _ rfl)) ?_
 have hx:=ar hT x
 have hy:=ar hT y
 unfold lg at h
 simp only[Bool.and_eq_true,Bool.or_eq_true]at h
 obtain⟨hop,h⟩:=h
 simp only[execOp,ho]
 generalize a.eval x=u at hx
 generalize a.eval y=v at hy
 have hops:op= .eql∨op= .neq:=by cases op<;>first|exact .inl rfl|exact .inr rfl|cases hop
 rcases h with⟨h1,h2⟩|⟨h1,h2⟩
 ·rcases qN hy h1 with⟨rfl,e,he⟩|⟨rfl,e,he⟩<;>rcases uU hx h2 with⟨e',ad,l,c,he',rfl⟩|⟨e',ad,he',rfl⟩
  ·rw[Sem.run_bind,sn t _ _ x y op hops (.inl ⟨_,_,_,_,_,_,rfl,rfl⟩) (Er 9999 t e ad l c he)];rfl
  ·rw[he]at he';cases he'
  ·rw[he]at he';cases he'
  ·rw[Sem.run_bind,sn t _ _ x y op hops (.inr ⟨_,_,rfl,rfl⟩) (Es 9999 t e ad he)];rfl
 ·rcases qN hx h1 with⟨rfl,e,he⟩|⟨rfl,e,he⟩<;>rcases uU hy h2 with⟨e',ad,l,c,he',rfl⟩|⟨e',ad,he',rfl⟩
  ·rw[Sem.run_bind,sn t _ _ x y op hops (.inl ⟨_,_,_,_,_,_,rfl,rfl⟩) (DT 9999 t e ad l c he)];rfl
  ·rw[he]at he';cases he'
  ·rw[he]at he';cases he'
  ·rw[Sem.run_bind,sn t _ _ x y op hops (.inr ⟨_,_,rfl,rfl⟩) (Et 9999 t e ad he)];rfl
end
def iK:List (List D)→Option (List Int)
 |[]=>some []
 |[.v (.int .u8 n)]::es=>(iK es).map (n::·)
 |_=>none
def kx(ns:List Int):ByteArray:=ns.foldl (fun r n=>r.push (UInt8.ofNat n.toNat)) ByteArray.empty
theorem nM:∀{es:List (List D)} {ns:List Int},iK es=some ns→es.length=ns.length∧∀i (h:i<es.length),es[i]=[.v (.int .u8 (ns.getD i 0))]
 |[],ns,h=>by cases h;exact⟨rfl,fun i h=>by simp at h⟩
 |c::es,ns,h=>by
  unfold iK at h
  split at h
  ·cases h;contradiction
  ·rename_i n es' heq
   cases heq
   obtain⟨ns',hn,rfl⟩:=Option.map_eq_some_iff.1 h
   obtain⟨h1,h2⟩:=nM hn
   refine⟨by simp[h1],fun i hi=>?_⟩
   cases i with
   |zero=>rfl
   |succ i=>simpa using h2 i (by simpa using hi)
  ·cases h
section
variable {P:Program} {o:Oper} {a:Act} {w:World} {H:aa} {φ:aK} {N:Addr→Prop} {s:Nat→AV}
theorem nb(hR:Rel H φ N w)(hT:bI H φ N w s a)(src dst e:TypeId)(x:Operand)(ho:o.op= .convert src dst x)(hs:SE P src=some e)(he:UK P e=some .u8)(hd:P.underlying dst=some .string)
  (nn:Bool) (es:List (List D)) (ns:List Int) (hx:ah s x= .d (.list nn es)) (hb:iK es=some ns):bW P o a w H φ N (.d (.v (.string (kx ns)))) H:=by
 have hv:=ar hT x
 rw[hx]at hv
 refine .same hR (x:= .string (kx ns)) (.d (.v _ rfl)) ?_
 obtain⟨hl,hg⟩:=nM hb
 generalize hu:a.eval x=u at hv
 have key:∀A l c,u= .slice A l c→(Conv.bytesToString (.slice A l c)).run P w= .ok (.string (kx ns)) w→(execOp a.eval o).run P w= .ok (.value (.string (kx ns))) w:=by
  intro A l c hA hr
  simp only[execOp,ho,hu,hA,Sem.run_bind,run_convert_bytes_string w src dst e A l c (SE.get hs) (UK.get he) hd,hr,Result.andThen_ok]
  rfl
 cases hv with
 |d hd'=>
  cases hd' with
  |nil A c hA=>
   cases hb
   refine key A 0 c rfl ?_
   cases A with
   |none=>rfl
   |some ad=>exact run_bytesToString w ad 0 c [] (by simp[loadCells,loadCellsFrom])
  |list _ _ ad cap k c hc hk hcell hdd=>
   refine key (some ad) es.length cap rfl ?_
   refine run_bytesToString w ad es.length cap ns ?_
   have hrun:=run_loadCells (P:=P) w ad es.length (fun i=> .int .u8 (ns.getD i 0)) fun i hi=>by
    have hlen:(es[i]).length=k:=hk _ (List.getElem_mem hi)
    have h1:=hg i hi
    have hk1:k=1:=by rw[←hlen,h1];rfl
    subst hk1
    have h2:=(hcell i 0 hi (by omega)).2
    have h3:=hdd i hi 0 (by rw[h1];simp)
    simp only[h1,List.getElem_cons_zero]at h3
    generalize hcc:c i 0=u at h2 h3
    cases h3
    simpa using h2
   rw[hrun]
   congr 2
   refine List.ext_getElem (by simp[hl]) fun i h1 h2=>?_
   have:i<ns.length:=by simpa using h2
   simp[this]
end
def bQ(es:List (List D))(off:Nat)(rows:List (List D)):List (List D):=es.take off++rows++es.drop (off+rows.length)
theorem fm(es:List (List D))(off:Nat)(rows:List (List D))(h:off+rows.length≤es.length):(bQ es off rows).length=es.length:=by simp[bQ];omega
theorem ve(es:List (List D))(off:Nat)(rows:List (List D))(h:off+rows.length≤es.length)(i:Nat):(bQ es off rows)[i]?=if i<off then es[i]? else if i<off+rows.length then rows[i-off]? else es[i]?:=gn es off rows h i
section
variable {P:Program} {o:Oper} {a:Act} {w:World} {H:aa} {φ:aK} {N:Addr→Prop} {s:Nat→AV}
theorem og(hR:Rel H φ N w){id ver:Nat}{e:TypeId}{k:Nat}{es rows:List (List D)}{off B c:Nat}(ho:H[id]?=some (.arr e k ver es))(hp:φ id=some (B,c))(hoff:off+rows.length≤es.length)(hrk:∀r∈rows,r.length=k)
  (vs:List Value) (hl:vs.length=rows.length* k) (hone:∀v∈vs,v.oneCell'=true) (hrd:∀i (hi:i<rows.length) j (hj:j<(rows[i]).length),∃u,vs[i* k+j]?=some u∧RD N w ((rows[i])[j]) u):
  ∃w',(storeCells ⟨B,off* k,none⟩ vs 0).run P w= .ok () w'∧Rel (H.set id (.arr e k ver (bQ es off rows))) φ N w'∧au H φ N w (H.set id (.arr e k ver (bQ es off rows))) φ N w':=by
 have hob:=hR.obj id _ ho
 cases hob with
 |arr _ _ _ _ hk hes hb=>
 rcases hb with⟨h0,_⟩|⟨B',cap,cur,e1,e2,e3,e4,e5,e6⟩
 ·rw[h0]at hp;cases hp
 ·have hpB:=e1
  rw[e1]at hp;cases hp
  have hroom:off* k+vs.length≤cur.size:=by
   have:=Nat.mul_le_mul_right k (show off+rows.length≤c by omega)
   rw[Nat.add_mul]at this
   omega
  refine⟨_,run_storeCells_at (P:=P) B (off* k) e vs 0 cur w e2 (by omega) hone,?_⟩
  simp only[Nat.add_zero]
  generalize hnew:(cur.toList.take (off* k)++vs++cur.toList.drop (off* k+vs.length)).toArray=cur'
  have hS:au H φ N w (H.set id (.arr e k ver (bQ es off rows))) φ N (w.setRow B cur'):=
   au.set ho hpB rfl rfl (by simp[ay.len,fm _ _ _ hoff]) (fun kk es he=>by cases he) (by simp) (by simp) (by simp) (by simp) (fun k hk=>setRow_other w B k cur' hk)
  refine⟨hR.set ho hpB hS (fun k hk=>setRow_other w B k cur' hk) ?_,hS⟩
  refine .arr e k ver _ hk ?_ (.inr ⟨B,c,cur',hpB,setRow_heap w B cur cur' e (0,0) e2,by rw[fm _ _ _ hoff];exact e3,e4,?_,?_⟩)
  ·intro x hx
   unfold bQ at hx
   rcases List.mem_append.1 hx with hx|hx
   ·rcases List.mem_append.1 hx with hx|hx
    ·exact hes x (List.mem_of_mem_take hx)
    ·exact hrk x hx
   ·exact hes x (List.mem_of_mem_drop hx)
  ·rw[←hnew,←e5];simp;omega
  ·intro i hi j hj
   have hget:=jo cur (off* k) vs hroom (i* k+j)
   rw[hnew]at hget
   rw[fm _ _ _ hoff]at hi
   have hsp:=ve es off rows hoff i
   rw[List.getElem?_eq_getElem (by rw[fm _ _ _ hoff];exact hi)]at hsp
   have hjk:j<k:=by
    have hm:(bQ es off rows)[i]'(by rw[fm _ _ _ hoff];exact hi)∈bQ es off rows:=List.getElem_mem _
    have hlen:∀x∈bQ es off rows,x.length=k:=by
     intro x hx
     unfold bQ at hx
     rcases List.mem_append.1 hx with hx|hx
     ·rcases List.mem_append.1 hx with hx|hx
      ·exact hes x (List.mem_of_mem_take hx)
      ·exact hrk x hx
     ·exact hes x (List.mem_of_mem_drop hx)
    rw[hlen _ hm]at hj;exact hj
   by_cases a1:i<off
   ·rw[if_pos a1,List.getElem?_eq_getElem hi]at hsp
    have h1:=cW hjk a1
    rw[if_pos h1]at hget
    have hx:=Option.some.inj hsp
    obtain⟨c',hc',hd'⟩:=e6 i hi j (by rw[←hx];exact hj)
    refine⟨c',hget.trans hc',?_⟩
    simp only[hx]
    exact hd'.since hR hS
   ·rw[if_neg a1]at hsp
    have h1:¬i* k+j<off* k:=by
     have:=Nat.mul_le_mul_right k (show off≤i by omega)
     omega
    rw[if_neg h1]at hget
    by_cases a2:i<off+rows.length
    ·rw[if_pos a2,List.getElem?_eq_getElem (show i-off<rows.length by omega)]at hsp
     have hx:=Option.some.inj hsp
     have hq:i* k+j-off* k=(i-off)* k+j:=by
      have:i* k=(i-off)* k+off* k:=by rw[←Nat.add_mul];congr 1;omega
      omega
     have h2:i* k+j<off* k+vs.length:=by
      have h3:=cW hjk (show i-off<rows.length by omega)
      have:i* k=(i-off)* k+off* k:=by rw[←Nat.add_mul];congr 1;omega
      omega
     rw[if_pos h2,hq]at hget
     obtain⟨u,hu,hd'⟩:=hrd (i-off) (by omega) j (by rw[←hx];exact hj)
     refine⟨u,hget.trans hu,?_⟩
     simp only[hx]
     exact hd'.since hR hS
    ·rw[if_neg a2,List.getElem?_eq_getElem hi]at hsp
     have hx:=Option.some.inj hsp
     have h2:¬i* k+j<off* k+vs.length:=by
      have:=Nat.mul_le_mul_right k (show off+rows.length≤i by omega)
      rw[Nat.add_mul]at this
      omega
     rw[if_neg h2]at hget
     obtain⟨c',hc',hd'⟩:=e6 i hi j (by rw[←hx];exact hj)
     refine⟨c',hget.trans hc',?_⟩
     simp only[hx]
     exact hd'.since hR hS
def fh(z:Value)(n:Nat):List (List D):=List.replicate n (z.cells.toList.map D.v)
theorem B5(hR:Rel H φ N w)(hT:bI H φ N w s a)(x:Operand)(t:TypeId)(ho:o.op= .call {callee:= .builtin .clear,args:=#[x],argTypes:=#[t]})(e:TypeId)(ht:SE P t=some e)(z:Value)(k b:Nat)(hi:TI P e=some (z,k,b))(hz:z.cells.size=k)(h1:z.cells.all Value.oneCell'=true)
  (id ver off len:Nat) (es:List (List D)) (hx:ah s x= .sl id ver off len) (hob:H[id]?=some (.arr e k ver es)):bW P o a w H φ N (.a7 []) (H.set id (.arr e k ver (bQ es off (fh z len)))):=by
 have hx':=ar hT x
 rw[hx]at hx'
 generalize hv:a.eval x=v at hx'
 cases hx' with
 |sl _ _ _ _ A l m o' ho' hver hh=>
 rw[hob]at ho';cases ho'
 obtain⟨rfl,h2,h3⟩:=hh rfl
 simp only[ay.len,ay.k]at h2 h3
 cases l with
 |zero=>
  have e0:bQ es off (fh z 0)=es:=by simp[bQ,fh]
  rw[e0]
  have e1:H.set id (.arr e k ver es)=H:=by
   apply List.ext_getElem?
   intro j
   rw[List.getElem?_set]
   by_cases hj:id=j
   ·subst hj;rw[if_pos rfl,if_pos (aj hob),hob]
   ·rw[if_neg hj]
  rw[e1]
  refine .same hR (x:= .tuple #[]) (.a7 [] #[] rfl fun i h1=>by simp at h1) ?_
  cases A with
  |none=>simp[execOp,ho,resolve,invoke,Go.builtin,Builtin.clear_,hv,run_underlying (SE.get ht)]
  |some ad=>simp[execOp,ho,resolve,invoke,Go.builtin,Builtin.clear_,hv,run_underlying (SE.get ht)]
 |succ l=>
  rcases h3 with⟨_,h3,_⟩|⟨B,c,h3,h4,rfl,rfl⟩
  ·omega
  ·have hrl:(fh z (l+1)).length=l+1:=by simp[fh]
   have hzc:(Builtin.zeroCells z.cells (l+1)).toList.length=(l+1)* k:=by simp[Builtin.zeroCells,hz]
   have hpos:0<k:=by
    have hobj:=hR.obj id _ hob
    cases hobj with
    |arr _ _ _ _ hk _ _=>exact hk
   have hzget:∀i,i<(l+1)* k→(Builtin.zeroCells z.cells (l+1)).toList[i]?=some (z.cells.toList[i%k]'(by have:=Nat.mod_lt i hpos;simpa[hz]using this)):=by
    intro i hi
    have hlt:i%k<z.cells.size:=by rw[hz];exact Nat.mod_lt i hpos
    simp only[Builtin.zeroCells,Array.getElem?_toList,Array.getElem?_map,hz]
    rw[Array.getElem?_range,if_pos hi]
    simp[getElem!_pos z.cells (i%k) hlt]
   have hall:=h1
   rw[Array.all_eq_true]at hall
   obtain⟨w',hrun,hR',hS'⟩:=og (P:=P) hR hob h3 (off:=off) (rows:=fh z (l+1)) (by rw[hrl];exact h2) (fun r hr=>by rw[List.eq_of_mem_replicate hr];simp[hz]) (Builtin.zeroCells z.cells (l+1)).toList (by rw[hzc,hrl])
    (fun v hv=>by
     obtain⟨i,hi⟩:=List.getElem?_of_mem hv
     have hlt:=(List.getElem?_eq_some_iff.1 hi).1
     rw[hzc]at hlt
     rw[hzget i hlt]at hi
     rw[←Option.some.inj hi]
     simpa using hall (i%k) (by rw[hz];exact Nat.mod_lt i hpos))
    (fun i hi j hj=>by
     rw[hrl]at hi
     have hr:(fh z (l+1))[i]'(by rw[hrl];exact hi)=z.cells.toList.map D.v:=by simp[fh]
     simp only[hr]at hj⊢
     have hjk:j<k:=by simpa[hz]using hj
     refine⟨_,hzget _ (cW hjk hi),?_⟩
     have hmod:(i* k+j)%k=j:=by rw[Nat.mul_comm,Nat.mul_add_mod];exact Nat.mod_eq_of_lt hjk
     simp only[hmod,List.getElem_map]
     exact .v _ (by simpa using hall j (by rw[hz];exact hjk)))
   refine⟨_,w',φ,N,.inl ?_,hR',hS',.a7 [] #[] rfl fun i h1=>by simp at h1⟩
   simp[execOp,ho,resolve,invoke,Go.builtin,Builtin.clear_,hv,run_underlying (SE.get ht),TI.zero hi,hrun]
theorem uR(hR:Rel H φ N w)(hT:bI H φ N w s a)(t:TypeId)(x:Operand)(lo hi:Option Operand)(ho:o.op= .slice t x lo hi none)(e:TypeId)(ht:SE P t=some e)(z:Value)(k b:Nat)(hi':TI P e=some (z,k,b))
  (id ver off len:Nat) (hx:ah s x= .sl id ver off len) (ob:ay) (hob:H[id]?=some ob) (hver:ob.ver=ver) (hk:ob.k=k) (l h:Int) (hl:aS s lo=some l) (hh:cK s len hi=some h) (h0:0≤l) (h1:l≤h) (h2:h≤len) (h3:l=0∨l<h):
  bW P o a w H φ N (.sl id ver (off+l.toNat) (h.toNat-l.toNat)) H:=by
 have hxa:=ar hT x
 rw[hx]at hxa
 generalize hv:a.eval x=v at hxa
 cases hxa with
 |sl _ _ _ _ A l' m o' ho' hver' hp=>
 rw[hob]at ho';cases ho'
 obtain⟨rfl,g1,g2⟩:=hp hver.symm
 rcases g2 with⟨g3,rfl,rfl,rfl⟩|⟨B,c,g3,g4,rfl,rfl⟩
 ·have hl0:l=0:=by omega
  have hh0:h=0:=by omega
  subst hl0 hh0
  refine .same hR (x:= .slice (if(0:Nat)=0 then A else A.map (·.add (0* k))) 0 0) ?_ ?_
  ·exact .sl id ver _ _ _ _ _ _ hob hver' fun _=>⟨rfl,by simp,.inl ⟨g3,rfl,rfl,rfl⟩⟩
  ·simp[execOp,ho,hv,Instr.sliceAt,Instr.slice,run_underlying (SE.get ht),fS hT true 0 0 hl hh (by omega) (by omega) (by omega),TI.sizeOf hi']
 ·refine .same hR (x:= .slice (if c-off=l.toNat then some ⟨B,off* ob.k,none⟩else some ((⟨B,off* ob.k,none⟩:Addr).add (l.toNat* k))) (h.toNat-l.toNat) (c-off-l.toNat)) ?_ ?_
  ·refine .sl id ver _ _ _ _ _ _ hob hver' fun _=>⟨rfl,by omega,.inr ⟨B,c,g3,by omega,?_,by omega⟩⟩
   by_cases hc:c-off=l.toNat
   ·rw[if_pos hc]
    have:l.toNat=0:=by omega
    rw[this,Nat.add_zero]
   ·rw[if_neg hc,add_plain,hk,Nat.add_mul]
  ·simp[execOp,ho,hv,Instr.sliceAt,Instr.slice,run_underlying (SE.get ht),fS hT true l' (c-off) hl hh h0 h1 (by omega),TI.sizeOf hi']
end
theorem uV(es:List (List D))(off:Nat):bQ es off []=es:=by simp[bQ]
theorem B7{H:aa}{id:Nat}{o:ay}(h:H[id]?=some o):H.set id o=H:=by
 apply List.ext_getElem?
 intro j
 rw[List.getElem?_set]
 by_cases hj:id=j
 ·subst hj;rw[if_pos rfl,if_pos (aj h),h]
 ·rw[if_neg hj]
section
variable {P:Program} {o:Oper} {a:Act} {w:World} {H:aa} {φ:aK} {N:Addr→Prop} {s:Nat→AV}
structure zy (P:Program) (w:World) (N:Addr→Prop) (k:Nat) (news:List (List D)) (yv:Value):Prop where
 len:(Builtin.lenOf yv).run P w= .ok news.length w
 cells:∀n,n≤news.length→∃vs:List Value,(Builtin.firstCells k n yv).run P w= .ok vs.toArray w∧vs.length=n* k∧(∀u∈vs,u.oneCell'=true)∧
  ∀i (hi:i<(news.take n).length) j (hj:j<((news.take n)[i]).length),∃u,vs[i* k+j]?=some u∧RD N w (((news.take n)[i])[j]) u
theorem Cw(hR:Rel H φ N w){y:AV}{yv:Value}(hy:RA H φ N w y yv){k:Nat}{news:List (List D)}(h:jy H y=some news)(hk:∀e∈news,e.length=k):zy P w N k news yv:=by
 obtain⟨A,c,nv,rfl,hs⟩:=y8 hR hy h hk
 refine⟨rfl,fun n hn=>⟨nv.take (n* k),?_,?_,fun u hu=>hs.one u (List.mem_of_mem_take hu),fun i hi j hj=>?_⟩⟩
 ·have hlen:(nv.take (n* k)).length=n* k:=by
   rw[List.length_take,hs.len]
   have:=Nat.mul_le_mul_right k hn
   omega
  cases A with
  |none=>
   have h0:=hs.nil rfl
   subst h0
   obtain rfl:n=0:=by simpa using hn
   simp[Builtin.firstCells]
  |some ad=>
   have:=run_loadCells_list (P:=P) w ad (nv.take (n* k)) fun j v hv=>hs.cells ad rfl j v (by
    have hj:=(List.getElem?_eq_some_iff.1 hv).1
    rw[List.getElem?_take]at hv
    split at hv
    ·exact hv
    ·cases hv)
   rw[hlen]at this
   simpa[Builtin.firstCells]using this
 ·rw[List.length_take,hs.len]
  have:=Nat.mul_le_mul_right k hn
  omega
 ·rw[List.length_take]at hi
  have hi2:i<news.length:=by omega
  have hrow:(news.take n)[i]'(by rw[List.length_take];exact hi)=news[i]:=List.getElem_take
  simp only[hrow]at hj⊢
  obtain⟨u,hu,hd⟩:=hs.rel i hi2 j hj
  refine⟨u,?_,hd⟩
  have hjk:j<k:=by rw[hk _ (List.getElem_mem hi2)]at hj;exact hj
  have:=cW hjk (show i<n by omega)
  rw[List.getElem?_take,if_pos this]
  exact hu
theorem DR(hR:Rel H φ N w)(hT:bI H φ N w s a)(x y:Operand)(t t':TypeId)(ho:o.op= .call {callee:= .builtin .copy,args:=#[x,y],argTypes:=#[t,t']})(e:TypeId)(ht:SE P t=some e)(z:Value)(k b:Nat)(hi:TI P e=some (z,k,b))
  (id ver off len:Nat) (es:List (List D)) (hx:ah s x= .sl id ver off len) (hob:H[id]?=some (.arr e k ver es)) (news:List (List D)) (hy:zy P w N k news (a.eval y)) (hk:∀c∈news,c.length=k):
  bW P o a w H φ N (.d (.v (.int .i64 ((min news.length len:Nat):Int)))) (H.set id (.arr e k ver (bQ es off (news.take (min news.length len))))):=by
 have hx':=ar hT x
 rw[hx]at hx'
 generalize hv:a.eval x=v at hx'
 generalize hyv:a.eval y=yv at hy
 cases hx' with
 |sl _ _ _ _ A l m o' ho' hver hh=>
 rw[hob]at ho';cases ho'
 obtain⟨rfl,h2,h3⟩:=hh rfl
 simp only[ay.len,ay.k]at h2 h3
 obtain⟨n,hn⟩:∃n,n=min news.length l:=⟨_,rfl⟩
 have hnn:Nat.min news.length l=n:=hn.symm
 rw[←hn]
 obtain⟨vs,hrun,hvl,hone,hrd⟩:=hy.cells n (by omega)
 have hlen:=hy.len
 by_cases h0:n=0
 ·subst h0
  rw[List.take_zero,uV,B7 hob]
  have hvs:vs=[]:=List.eq_nil_of_length_eq_zero (by rw[hvl,Nat.zero_mul])
  subst hvs
  refine .same hR (x:= .int .i64 0) (.d (.v _ rfl)) ?_
  cases A with
  |none=>simp[execOp,ho,resolve,invoke,Go.builtin,Builtin.copy_,hv,hyv,run_underlying (SE.get ht),TI.sizeOf hi,hlen,hnn,hrun,goInt]
  |some ad=>simp[execOp,ho,resolve,invoke,Go.builtin,Builtin.copy_,hv,hyv,run_underlying (SE.get ht),TI.sizeOf hi,hlen,hnn,hrun,goInt,storeCells]
 ·rcases h3 with⟨_,h3,_⟩|⟨B,c,h3,h4,rfl,rfl⟩
  ·omega
  ·have hrl:(news.take n).length=n:=by rw[List.length_take];omega
   obtain⟨w',hst,hR',hS'⟩:=og (P:=P) hR hob h3 (off:=off) (rows:=news.take n) (by rw[hrl];omega) (fun r hr=>hk r (List.mem_of_mem_take hr)) vs (by rw[hvl,hrl]) hone hrd
   refine⟨.int .i64 (n:Int),w',φ,N,.inl ?_,hR',hS',.d (.v _ rfl)⟩
   simp[execOp,ho,resolve,invoke,Go.builtin,Builtin.copy_,hv,hyv,run_underlying (SE.get ht),TI.sizeOf hi,hlen,hnn,hrun,hst,goInt]
theorem Rel.Bh{H:aa}{φ:aK}{N:Addr→Prop}{w:World}{id k ver n:Nat}{e:TypeId}{ds:List D}(hR:Rel H φ N w)(ho:H[id]?=some (.box e k ver n (ds.map AV.d))):
  ∃φ' N',Rel (H.set id (.arr e k (ver+1) [])) φ' N' w∧au H φ N w (H.set id (.arr e k (ver+1) [])) φ' N' w∧
   ∀v,RA H φ N w (.ptr id ver 0 0) v→∃ad,v= .pointer (some ad)∧RD N' w (.list true (ds.map fun d=>[d])) (.slice (some ad) ds.length ds.length):=by
 have hid:id<H.length:=aj ho
 have hobj:=hR.obj id _ ho
 cases hobj with
 |box _ _ _ _ _ B cap cur hk hn hp hb hc hm hs hcell=>
 rw[List.length_map]at hn
 let φ':aK:=fun j=>if j=id then none else φ j
 let N':Addr→Prop:=fun a=>N a∨(a.block=B∧a.spot=none∧a.off<ds.length)
 have hφ:∀j,j≠id→φ' j=φ j:=fun j hj=>if_neg hj
 have hφi:φ' id=none:=if_pos rfl
 have hsz:ds.length≤cur.size:=by have:=Nat.mul_le_mul_right k hc;omega
 have hS:au H φ N w (H.set id (.arr e k (ver+1) [])) φ' N' w:=by
  refine⟨by simp,rfl,rfl,rfl,Nat.le_refl _,fun _ _ _=>rfl,fun j B c hj hp _=>?_,fun _ h=> .inl h,fun j o hj=>?_,fun a h=>?_⟩
  ·by_cases hji:j=id
   ·subst hji;rw[hφi]at hp;cases hp
   ·rw[hφ j hji]at hp
    exact⟨j,c,by simpa using hj,hp⟩
  ·by_cases hji:j=id
   ·subst hji
    rw[ho]at hj;cases hj
    refine⟨.arr e k (ver+1) [],by simp[hid],rfl,Nat.le_succ _,fun h=>?_,fun kk es' h=>by cases h⟩
    simp only[ay.ver]at h
    omega
   ·refine⟨o,by rw[List.getElem?_set_ne (Ne.symm hji)];exact hj,rfl,Nat.le_refl _,fun _=>⟨hφ j hji,Nat.le_refl _⟩,fun kk es' h=>⟨hφ j hji,es',h⟩⟩
  ·rcases h with h|⟨h,_⟩
   ·exact .inl h
   ·exact .inr (.inr ⟨id,cap,hid,by rw[h];exact hp⟩)
 refine⟨φ',N',⟨fun j o hj=>?_,fun i j B c c' hi hj hpi hpj=>?_,fun a ha=>?_,fun a j B' c ha hj hp'=>?_⟩,hS,fun v hv=>?_⟩
 ·by_cases hji:j=id
  ·subst hji
   simp[hid]at hj
   subst hj
   exact .arr e k (ver+1) [] hk (fun c hc=>by simp at hc) (.inl ⟨hφi,rfl⟩)
  ·rw[List.getElem?_set_ne (Ne.symm hji)]at hj
   exact(hR.obj j o hj).cM hR hS (hφ j hji) fun _ _ _=>rfl
 ·have hi':i≠id:=fun h=>by subst h;rw[hφi]at hpi;cases hpi
  have hj':j≠id:=fun h=>by subst h;rw[hφi]at hpj;cases hpj
  rw[hφ i hi']at hpi
  rw[hφ j hj']at hpj
  exact hR.inj i j B c c' (by simpa using hi) (by simpa using hj) hpi hpj
 ·rcases ha with ha|⟨h1,h2,h3⟩
  ·exact hR.live a ha
  ·have hlt:a.off<cur.size:=by omega
   refine⟨cur[a.off],?_⟩
   simp[World.cell?,h1,hb,h2,hlt]
 ·have hj':j≠id:=fun h=>by subst h;rw[hφi]at hp';cases hp'
  rw[hφ j hj']at hp'
  have hj2:j<H.length:=by simpa using hj
  rcases ha with ha|⟨h1,_⟩
  ·exact hR.apart a j B' c ha hj2 hp'
  ·intro hab
   have:B=B':=h1.symm.trans hab
   subst this
   exact hj' (hR.inj j id B c cap hj2 hid hp' hp)
 ·cases hv with
  |ptr _ _ _ _ A o' ho' hv' hh=>
  rw[ho]at ho';cases ho'
  obtain⟨B',c,hp',rfl⟩:=hh rfl
  rw[hp]at hp';cases hp'
  simp only[Nat.zero_mul,Nat.add_zero]
  refine⟨⟨B,0,none⟩,rfl,?_⟩
  have key:=RD.list (N:=N') (w:=w) true (ds.map fun d=>[d]) ⟨B,0,none⟩ ds.length 1 (fun i j=>cur.getD (i+j) undef) (by simp)
   (fun e he=>by obtain⟨d,_,rfl⟩:=List.mem_map.1 he;rfl) (fun i j hi hj=>by
    rw[List.length_map]at hi
    have hj0:j=0:=by omega
    subst hj0
    rw[add_plain]
    simp only[Nat.mul_one,Nat.add_zero,Nat.zero_add]
    refine⟨.inr ⟨rfl,rfl,hi⟩,?_⟩
    simp[World.cell?,hb,Array.getD,show i<cur.size by omega]) (fun i hi j hj=>by
    have hi':i<ds.length:=by simpa using hi
    have hrow:(ds.map fun d=>[d])[i]'hi=[ds[i]]:=by simp
    have hj0:j=0:=by rw[hrow]at hj;simpa using hj
    subst hj0
    simp only[hrow,List.getElem_cons_zero,Nat.add_zero]
    obtain⟨u,hu,hd⟩:=hcell i (by simpa using hi')
    have hget:cur.getD i undef=u:=by rw[Array.getD_eq_getD_getElem?,hu];rfl
    rw[hget]
    simp only[List.getElem_map]at hd
    cases hd with
    |d hd=>exact hd.since hR hS)
  rw[List.length_map]at key
  exact key
theorem rX{ds:List D}{ad:Addr}{n:Nat}(h:RD N w (.list true (ds.map fun d=>[d])) (.slice (some ad) n n)):RA H φ N w (.cc ds) (.pointer (some ad)):=by
 generalize hes:(ds.map fun d=>[d])=es at h
 have hl:es.length=ds.length:=by rw[←hes,List.length_map]
 cases h with
 |list _ _ _ cap k c hc hk hh hd=>
  refine .cc _ ad (fun t=>c t 0) (fun t ht=>?_) fun t ht=>?_
  ·have hk1:k=1:=by
    have h1:0<es.length:=by omega
    have:=hk _ (List.getElem_mem h1)
    subst hes
    simpa using this.symm
   subst hk1
   have:=hh t 0 (by omega) (by omega)
   simpa using this
  ·have hi:t<es.length:=by omega
   have hrow:es[t]=[ds[t]]:=by subst hes;simp
   have:=hd t hi 0 (by rw[hrow];simp)
   simpa only[hrow,List.getElem_cons_zero]using this
theorem qn(hR:Rel H φ N w)(hT:bI H φ N w s a)(t:TypeId)(x:Operand)(lo hi0:Option Operand)(ho:o.op= .slice t x lo hi0 none)(h1:lo.isNone=true)(h2:hi0.isNone=true)(e:TypeId)(n:Nat)(ha:AE P t=some (n,e))(z:Value)(b:Nat)(hi:TI P e=some (z,1,b))
  (ds:List D) (hx:ah s x= .cc ds) (hl:ds.length=n):bW P o a w H φ N (.d (.list true (ds.map fun d=>[d]))) H:=by
 cases lo with
 |some _=>cases h1
 |none=>
 cases hi0 with
 |some _=>cases h2
 |none=>
 have hx':=ar hT x
 rw[hx]at hx'
 have hae:=AE.get ha
 generalize hv:a.eval x=v at hx'
 cases hx' with
 |cc _ ad c h hd=>
  have key:=RD.list (N:=N) (w:=w) true (ds.map fun d=>[d]) ad ds.length 1 (fun i j=>c (i+j)) (by simp) (fun e he=>by obtain⟨d,_,rfl⟩:=List.mem_map.1 he;rfl)
   (fun i j hi hj=>by
    rw[List.length_map]at hi
    have hj0:j=0:=by omega
    subst hj0
    simpa using h i hi) (fun i hi j hj=>by
    have hi':i<ds.length:=by simpa using hi
    have hrow:(ds.map fun d=>[d])[i]'hi=[ds[i]]:=by simp
    have hj0:j=0:=by rw[hrow]at hj;simpa using hj
    subst hj0
    simp only[hrow,List.getElem_cons_zero,Nat.add_zero]
    exact hd i hi')
  rw[List.length_map,hl]at key
  refine .same hR (x:= .slice (some ad) n n) (.d key) ?_
  by_cases hn:n=0
  ·subst hn
   simp[execOp,ho,Instr.sliceAt,Instr.sureAddr,Instr.sliceBounds,hv,run_underlying hae,TI.sizeOf hi,Result.andThen]
  ·simp[execOp,ho,Instr.sliceAt,Instr.sureAddr,Instr.sliceBounds,hv,run_underlying hae,TI.sizeOf hi,Result.andThen,Addr.add]
def Ee:List (List D)→Option (List D)
 |[]=>some []
 |[d]::r=>(Ee r).map (d::·)
 |_=>none
theorem zc:∀{es:List (List D)} {ds:List D},Ee es=some ds→es=ds.map fun d=>[d]
 |[],ds,h=>by cases h;rfl
 |[]::r,ds,h=>by cases h
 |[d]::r,ds,h=>by
  simp only[Ee,Option.map_eq_some_iff]at h
  obtain⟨l,h1,rfl⟩:=h
  rw[zc h1];rfl
 |(_::_::_)::r,ds,h=>by cases h
theorem wM(hR:Rel H φ N w)(hT:bI H φ N w s a)(t:TypeId)(x:Operand)(ho:o.op= .sliceToArrayPointer t x)(e:TypeId)(n:Nat)(ha:AE P t=some (n,e))(nn:Bool)(ds:List D)(hx:ah s x= .d (.list nn (ds.map fun d=>[d])))(h0:0<n)(hn:n≤ds.length):
  bW P o a w H φ N (.cc (ds.take n)) H:=by
 have hx':=ar hT x
 rw[hx]at hx'
 have hae:=AE.get ha
 generalize hv:a.eval x=v at hx'
 generalize hes:(ds.map fun d=>[d])=es at hx'
 have hl:es.length=ds.length:=by rw[←hes,List.length_map]
 cases hx' with
 |d hd=>
 cases hd with
 |nil A c=>simp at hl;omega
 |list _ _ ad cap k c hc hk hh hd=>
  have hk1:k=1:=by
   have h1:0<es.length:=by omega
   have:=hk _ (List.getElem_mem h1)
   subst hes
   simpa using this.symm
  subst hk1
  refine .same hR (x:= .pointer (some ad)) (.cc _ ad (fun t=>c t 0) (fun t ht=>?_) fun t ht=>?_) ?_
  ·rw[List.length_take]at ht
   have:=hh t 0 (by omega) (by omega)
   simpa using this
  ·rw[List.length_take]at ht
   have hi:t<es.length:=by omega
   have hrow:es[t]=[ds[t]'(by omega)]:=by subst hes;simp
   have:=hd t hi 0 (by rw[hrow];simp)
   simp only[hrow,List.getElem_cons_zero]at this
   simpa using this
  ·simp[execOp,ho,hv,Instr.arrayAt,run_underlying hae,hl,show ¬ds.length<n by omega,Result.andThen]
end
theorem Rel.freeze{H:aa}{φ:aK}{N:Addr→Prop}{w:World}{id k ver:Nat}{e:TypeId}{es:List (List D)}(hR:Rel H φ N w)(ho:H[id]?=some (.arr e k ver es)):
  ∃φ' N',Rel (H.set id (.arr e k (ver+1) [])) φ' N' w∧au H φ N w (H.set id (.arr e k (ver+1) [])) φ' N' w∧
   ∀off len v,RA H φ N w (.sl id ver off len) v→RA (H.set id (.arr e k (ver+1) [])) φ' N' w (.d (.list false ((es.drop off).take len))) v:=by
 have hid:id<H.length:=aj ho
 have hobj:=hR.obj id _ ho
 cases hobj with
 |arr _ _ _ _ hk hes hbl=>
 let φ':aK:=fun j=>if j=id then none else φ j
 let N':Addr→Prop:=fun a=>N a∨∃B c,φ id=some (B,c)∧a.block=B∧a.spot=none∧a.off<es.length* k
 have hφ:∀j,j≠id→φ' j=φ j:=fun j hj=>if_neg hj
 have hφi:φ' id=none:=if_pos rfl
 have hS:au H φ N w (H.set id (.arr e k (ver+1) [])) φ' N' w:=by
  refine⟨by simp,rfl,rfl,rfl,Nat.le_refl _,fun _ _ _=>rfl,fun j B c hj hp _=>?_,fun _ h=> .inl h,fun j o hj=>?_,fun a h=>?_⟩
  ·by_cases hji:j=id
   ·subst hji;rw[hφi]at hp;cases hp
   ·rw[hφ j hji]at hp
    exact⟨j,c,by simpa using hj,hp⟩
  ·by_cases hji:j=id
   ·subst hji
    rw[ho]at hj;cases hj
    refine⟨.arr e k (ver+1) [],by simp[hid],rfl,Nat.le_succ _,fun h=>?_,fun kk es' h=>by cases h⟩
    simp only[ay.ver]at h
    omega
   ·refine⟨o,by rw[List.getElem?_set_ne (Ne.symm hji)];exact hj,rfl,Nat.le_refl _,fun _=>⟨hφ j hji,Nat.le_refl _⟩,fun kk es' h=>⟨hφ j hji,es',h⟩⟩
  ·rcases h with h|⟨B,c,hp,h,_⟩
   ·exact .inl h
   ·exact .inr (.inr ⟨id,c,hid,by rw[h];exact hp⟩)
 refine⟨φ',N',⟨fun j o hj=>?_,fun i j B c c' hi hj hpi hpj=>?_,fun a ha=>?_,fun a j B c ha hj hp=>?_⟩,hS,fun off len v hv=>?_⟩
 ·by_cases hji:j=id
  ·subst hji
   simp[hid]at hj
   subst hj
   exact .arr e k (ver+1) [] hk (fun c hc=>by simp at hc) (.inl ⟨hφi,rfl⟩)
  ·rw[List.getElem?_set_ne (Ne.symm hji)]at hj
   exact(hR.obj j o hj).cM hR hS (hφ j hji) fun _ _ _=>rfl
 ·have hi':i≠id:=fun h=>by subst h;rw[hφi]at hpi;cases hpi
  have hj':j≠id:=fun h=>by subst h;rw[hφi]at hpj;cases hpj
  rw[hφ i hi']at hpi
  rw[hφ j hj']at hpj
  exact hR.inj i j B c c' (by simpa using hi) (by simpa using hj) hpi hpj
 ·rcases ha with ha|⟨B,c,hB,h1,h2,h3⟩
  ·exact hR.live a ha
  ·rcases hbl with⟨g0,_⟩|⟨B',cap,cur,g1,g2,g3,g4,g5,g6⟩
   ·rw[g0]at hB;cases hB
   ·rw[g1]at hB;cases hB
    have hlt:a.off<cur.size:=by have:=Nat.mul_le_mul_right k g3;omega
    refine⟨cur[a.off],?_⟩
    simp[World.cell?,h1,g2,h2,hlt]
 ·have hj':j≠id:=fun h=>by subst h;rw[hφi]at hp;cases hp
  rw[hφ j hj']at hp
  have hj2:j<H.length:=by simpa using hj
  rcases ha with ha|⟨B0,c0,hB,h1,_⟩
  ·exact hR.apart a j B c ha hj2 hp
  ·intro hab
   have:B0=B:=h1.symm.trans hab
   subst this
   exact hj' (hR.inj j id B0 c c0 hj2 hid hp hB)
 ·cases hv with
  |sl _ _ _ _ A l m' o ho' hv' hp=>
  rw[ho]at ho';cases ho'
  obtain⟨rfl,h1,h2⟩:=hp rfl
  simp only[ay.len]at h1
  by_cases hl0:l=0
  ·subst hl0
   simp only[List.take_zero]
   exact .d (.nil _ _ (by rcases h2 with⟨_,_,_,rfl⟩|⟨B,c,_,_,rfl,_⟩;exact fun _=>rfl;exact fun h=>by cases h))
  rcases h2 with⟨_,h3,_⟩|⟨B,c,h3,h4,rfl,rfl⟩
  ·omega
  rcases hbl with⟨g0,_⟩|⟨B',cap,cur,g1,g2,g3,g4,g5,g6⟩
  ·rw[g0]at h3;cases h3
  have hφ3:=h3
  obtain⟨e1,e2⟩:=Prod.mk.inj (Option.some.inj (g1.symm.trans h3))
  subst e1 e2
  have hel:((es.drop off).take l).length=l:=by simp;omega
  have key:=RD.list (N:=N') (w:=w) false ((es.drop off).take l) ⟨B',off* k,none⟩ (cap-off) k (fun i j=>cur.getD ((off+i)* k+j) undef) (by rw[hel];omega)
   (fun e he=>hes e (List.mem_of_mem_drop (List.mem_of_mem_take he))) (fun i j hi hj=>by
    rw[hel]at hi
    have hlt:(off+i)* k+j<es.length* k:=cW hj (by omega)
    have hlt2:(off+i)* k+j<cur.size:=by have:=Nat.mul_le_mul_right k g3;omega
    have hpos:off* k+(i* k+j)=(off+i)* k+j:=by rw[Nat.add_mul];omega
    rw[add_plain,hpos]
    refine⟨.inr ⟨B',cap,hφ3,rfl,rfl,hlt⟩,?_⟩
    simp[World.cell?,g2,Array.getD,hlt2]) (fun i hi j hj=>by
    rw[hel]at hi
    simp only[List.getElem_take,List.getElem_drop]at hj⊢
    obtain⟨u,hu,hd⟩:=g6 (off+i) (by omega) j hj
    have hget:cur.getD ((off+i)* k+j) undef=u:=by
     rw[Array.getD_eq_getD_getElem?,hu];rfl
    simp only[hget]
    exact hd.since hR hS)
  rw[hel]at key
  exact .d key
theorem Rel.kF{H:aa}{φ:aK}{N:Addr→Prop}{w:World}{id k0 ver m j id' ver' off len k:Nat}{e0 e:TypeId}{cs:List AV}{es:List (List D)}(hR:Rel H φ N w)(ho:H[id]?=some (.box e0 k0 ver m cs))(hj:cs[j]?=some (.sl id' ver' off len))(ho':H[id']?=some (.arr e k ver' es)):
  ∃φ' N',Rel ((H.set id' (.arr e k (ver'+1) [])).set id (.box e0 k0 ver m (cs.set j (.d (.list false ((es.drop off).take len)))))) φ' N' w∧au H φ N w ((H.set id' (.arr e k (ver'+1) [])).set id (.box e0 k0 ver m (cs.set j (.d (.list false ((es.drop off).take len)))))) φ' N' w:=by
 have hne:id'≠id:=by rintro rfl;rw[ho]at ho';cases ho'
 obtain⟨φ1,N1,hR1,hS1,hv⟩:=hR.freeze ho'
 have hob:=hR.obj id _ ho
 have ho1:(H.set id' (.arr e k (ver'+1) []))[id]?=some (.box e0 k0 ver m cs):=by rw[List.getElem?_set_ne hne];exact ho
 have hob1:=hR1.obj id _ ho1
 cases hob1 with
 |box _ _ _ _ _ B1 cap1 cur1 f1 f2 f3 f4 f5 f6 f7 f8=>
 cases hob with
 |box _ _ _ _ _ B cap cur g1 g2 g3 g4 g5 g6 g7 g8=>
 have hBB:B1=B:=by
  obtain⟨o2,h1,_,_,h2,_⟩:=hS1.bM id _ ho
  rw[ho1]at h1
  cases h1
  have h3:=(h2 rfl).1
  rw[f3,g3]at h3
  exact(Prod.mk.inj (Option.some.inj h3)).1
 subst hBB
 rw[g4]at f4
 cases f4
 have hS2:au (H.set id' (.arr e k (ver'+1) [])) φ1 N1 w ((H.set id' (.arr e k (ver'+1) [])).set id (.box e0 k0 ver m (cs.set j (.d (.list false ((es.drop off).take len)))))) φ1 N1 w:=
  au.set ho1 f3 rfl rfl rfl (fun kk es he=>by cases he) rfl rfl rfl rfl fun _ _=>rfl
 refine⟨φ1,N1,hR1.set ho1 f3 hS2 (fun _ _=>rfl) ?_,hS1.trans hS2⟩
 refine .box e0 k0 ver m _ B1 cap1 _ f1 (by simpa using f2) f3 g4 f5 f6 f7 fun i hi=>?_
 have hi2:i<cs.length:=by simpa using hi
 by_cases he:i=j
 ·subst he
  obtain⟨c,hc,hd⟩:=g8 i hi2
  refine⟨c,hc,?_⟩
  simp only[List.getElem_set_self]
  rw[List.getElem?_eq_getElem hi2]at hj
  rw[Option.some.inj hj]at hd
  exact(hv off len _ hd).since hR1 hS2
 ·obtain⟨c,hc,hd⟩:=f8 i hi2
  refine⟨c,hc,?_⟩
  rw[List.getElem_set_ne (Ne.symm he)]
  exact hd.since hR1 hS2
theorem jN{α:Type}{k:Nat}:∀{es:List (List α)},(∀c∈es,c.length=k)→es.flatten.length=es.length* k∧∀i (hi:i<es.length) j (hj:j<(es[i]).length),es.flatten[i* k+j]?=some (es[i])[j]
 |[],_=>⟨by simp,fun i hi=>by simp at hi⟩
 |e::es,h=>by
  have he:=h e (by simp)
  obtain⟨h1,h2⟩:=jN (es:=es) fun c hc=>h c (by simp[hc])
  refine⟨by rw[List.flatten_cons,List.length_append,h1,he,List.length_cons,Nat.succ_mul];omega,fun i hi j hj=>?_⟩
  rw[List.flatten_cons]
  rcases i with _|i
  ·simp only[List.getElem_cons_zero]at hj⊢
   rw[Nat.zero_mul,Nat.zero_add,List.getElem?_append_left hj,List.getElem?_eq_getElem hj]
  ·simp only[List.getElem_cons_succ]at hj⊢
   have:=h2 i (by simpa using hi) j hj
   rw[List.getElem?_append_right (by rw[he,Nat.succ_mul];omega),show(i+1)* k+j-e.length=i* k+j by rw[he,Nat.succ_mul];omega]
   exact this
theorem Rel.xD{H:aa}{φ:aK}{N:Addr→Prop}{w:World}{id k ver:Nat}{e:TypeId}{es:List (List D)}(hR:Rel H φ N w)(ho:H[id]?=some (.arr e k ver es))(hne:es≠[]):
  Rel (H.set id (.box e k ver es.length (es.flatten.map AV.d))) φ N w∧au H φ N w (H.set id (.box e k ver es.length (es.flatten.map AV.d))) φ N w:=by
 cases hR.obj id _ ho with
 |arr _ _ _ _ hk hes h=>
 rcases h with⟨_,h⟩|⟨B,cap,cur,hp,hb,hc,hm,hs,h⟩
 ·exact absurd h hne
 have hS:au H φ N w (H.set id (.box e k ver es.length (es.flatten.map AV.d))) φ N w:=au.set ho hp rfl rfl rfl (fun kk es he=>by cases he) rfl rfl rfl rfl fun _ _=>rfl
 obtain⟨f1,f2⟩:=jN hes
 refine⟨hR.set ho hp hS (fun _ _=>rfl) (.box e k ver _ _ B cap cur hk (by rw[List.length_map,f1]) hp hb hc hm hs fun t ht=>?_),hS⟩
 rw[List.length_map,f1]at ht
 have hi:t/k<es.length:=(Nat.div_lt_iff_lt_mul hk).2 ht
 have hj:t%k<(es[t/k]).length:=by rw[hes _ (List.getElem_mem hi)];exact Nat.mod_lt _ hk
 have ht2:t/k* k+t%k=t:=by rw[Nat.mul_comm];exact Nat.div_add_mod t k
 obtain⟨c,h1,h2⟩:=h _ hi _ hj
 rw[ht2]at h1
 have h3:=f2 _ hi _ hj
 rw[ht2]at h3
 refine⟨c,h1,?_⟩
 obtain⟨h4,h5⟩:=List.getElem?_eq_some_iff.1 h3
 rw[List.getElem_map,h5]
 exact .d h2
theorem Rel.xd{H:aa}{φ:aK}{N:Addr→Prop}{w:World}{id k ver:Nat}{e:TypeId}{es:List (List D)}(hR:Rel H φ N w)(ho:H[id]?=some (.box e k ver es.length (es.flatten.map AV.d)))(hes:∀c∈es,c.length=k):
  Rel (H.set id (.arr e k ver es)) φ N w∧au H φ N w (H.set id (.arr e k ver es)) φ N w:=by
 cases hR.obj id _ ho with
 |box _ _ _ _ _ B cap cur hk hn hp hb hc hm hs h=>
 have hS:au H φ N w (H.set id (.arr e k ver es)) φ N w:=au.set ho hp rfl rfl rfl (fun kk es he=>by cases he) rfl rfl rfl rfl fun _ _=>rfl
 obtain⟨f1,f2⟩:=jN hes
 refine⟨hR.set ho hp hS (fun _ _=>rfl) (.arr e k ver es hk hes (.inr ⟨B,cap,cur,hp,hb,hc,hm,hs,fun i hi j hj=>?_⟩)),hS⟩
 obtain⟨h4,h5⟩:=List.getElem?_eq_some_iff.1 (f2 i hi j hj)
 obtain⟨c,h1,h2⟩:=h (i* k+j) (by rw[List.length_map];exact h4)
 rw[List.getElem_map,h5]at h2
 refine⟨c,h1,?_⟩
 cases h2 with
 |d h2=>exact h2
inductive mv where
 |ok (r:AV)
 |panic (v:Value)
def p8(H:aa)(φ:aK)(N:Addr→Prop)(w:World)(args:List AV)(vals:Array Value):Prop:=
 args.length=vals.size∧∀i (h1:i<args.length) (h2:i<vals.size),RA H φ N w (args[i]) (vals[i])
def pS(H:aa)(φ:aK)(N:Addr→Prop)(w:World):mv→Ending→Prop
 | .ok r,.returned v=>RA H φ N w r v
 | .panic x,.panicked [p]=>p={v:=x,recovered:=false}
 |_,_=>False
def tf(P:Program)(f:FuncId)(vals:Array Value)(w:World)(R:Ending→World→Prop):Prop:=
 ((callFunc f vals).run P w= .ok (.enter f vals) w∧Calls P f vals w R)∨∃v w',(callFunc f vals).run P w= .ok (.value v) w'∧R (.returned v) w'
def ag(P:Program)(f:FuncId)(args:List AV)(H:aa)(res:mv)(H':aa):Prop:=
 ∀(φ:aK) (N:Addr→Prop) (w:World) (vals:Array Value),Rel H φ N w→p8 H φ N w args vals→
  tf P f vals w fun e w'=>∃φ' N',Rel H' φ' N' w'∧au H φ N w H' φ' N' w'∧pS H' φ' N' w' res e
def b6(s:Nat→AV)(k:IntKind):List Operand→Option (List Int)
 |[]=>some []
 |x::xs=>match closed (ah s x),b6 s k xs with
  |some (.int k' n),some ns=>if k'=k then some (n::ns)else none
  |_,_=>none
def b7(P:Program)(s:Nat→AV)(H:aa)(b:Builtin)(args:List Operand)(tys:List TypeId)(K:AV→aa→Prop):Prop:=
 match b,args,tys with
 | .len,[x],[t]=>
  match SE P t with
  |some _=>(match oX H (ah s x)with|some n=>K (.d (.v (.int .i64 n))) H|none=>False)
  |none=>(match MT P t with
   |some (kk,_,_)=>(match ah s x with| .mp id=>(match H[id]? with|some (.mp kk' es)=>kk'=kk∧K (.d (.v (.int .i64 es.length))) H|_=>False)|_=>False)
   |none=>P.underlying t=some .string∧(match closed (ah s x)with|some (.string b)=>K (.d (.v (.int .i64 b.size))) H|_=>False))
 | .append,[x,y],[t,t']=>
  match SE P t with
  |some e=>(match TI P e with
   |some (z,k,b)=>(z.cells.size=k∧0<k)∧(match pM P t t' k H (ah s y)with
    |some news=>(∀c∈news,c.length=k)∧
     (match ah s x with
     | .sl id ver 0 len=>(match H[id]? with
      |some (.arr e' k' ver' es)=>(e'=e∧k'=k∧ver'=ver∧es.length=len)∧(es.length+news.length)* b≤140737488355328∧es.length+news.length≤9223372036854775807∧
        K (.sl id (ver+1) 0 (es.length+news.length)) (H.set id (.arr e k (ver+1) (es++news)))
      |_=>False)
     |x=>isNone x=true∧news.length* b≤140737488355328∧news.length≤9223372036854775807∧K (.sl H.length 1 0 news.length) (H++[.arr e k 1 news]))
    |none=>False)
   |none=>False)
  |none=>False
 | .clear,[x],[t]=>(match SE P t with
  |some e=>(match TI P e with
   |some (z,k,_)=>(z.cells.size=k∧z.cells.all Value.oneCell'=true)∧(match ah s x with
    | .sl id ver off len=>(match H[id]? with
     |some (.arr e' k' ver' es)=>(e'=e∧k'=k∧ver'=ver)∧K (.a7 []) (H.set id (.arr e k ver (bQ es off (fh z len))))
     |_=>False)
    |_=>False)
   |none=>False)
  |none=>False)
 | .copy,[x,y],[t,_]=>(match SE P t with
  |some e=>(match TI P e with
   |some (_,k,_)=>(match jy H (ah s y)with
    |some news=>(∀c∈news,c.length=k)∧(match ah s x with
     | .sl id ver off len=>(match H[id]? with
      |some (.arr e' k' ver' es)=>(e'=e∧k'=k∧ver'=ver)∧K (.d (.v (.int .i64 ((min news.length len:Nat):Int)))) (H.set id (.arr e k ver (bQ es off (news.take (min news.length len)))))
      |_=>False)
     |_=>False)
    |none=>False)
   |none=>False)
  |none=>False)
 | .min,x::xs,_=>(match closed (ah s x)with
  |some (.int k n)=>(match b6 s k xs with|some ns=>K (.d (.v (.int k (ns.foldl min n)))) H|none=>False)
  |_=>False)
 | .max,x::xs,_=>(match closed (ah s x)with
  |some (.int k n)=>(match b6 s k xs with|some ns=>K (.d (.v (.int k (ns.foldl max n)))) H|none=>False)
  |_=>False)
 |_,_,_=>False
def cY(H:aa)(k:Nat)(lo:Option Int)(hi:Nat→Option Int)(K:AV→aa→Prop):AV→Prop
 | .d (.list _ es)=>(∀c∈es,c.length=k)∧(match lo,hi es.length with
  |some l,some h=>0≤l∧l≤h∧h≤es.length∧K (.d (.list false ((es.take h.toNat).drop l.toNat))) H
  |_,_=>False)
 | .sl id ver off len=>(match H[id]?,lo,hi len with
  |some o,some l,some h=>(o.ver=ver∧o.k=k∧o.live=true)∧0≤l∧l≤h∧h≤len∧(l=0∨l<h)∧K (.sl id ver (off+l.toNat) (h.toNat-l.toNat)) H
  |_,_,_=>False)
 |_=>False
def wX(H:aa)(n:Nat)(K:AV→aa→Prop):AV→Prop
 | .cc ds=>ds.length=n∧K (.d (.list true (ds.map fun d=>[d]))) H
 |_=>False
def isAny(P:Program)(t:TypeId):Bool:=match P.underlying t with|some (.interface ms)=>ms.isEmpty|_=>false
def eR(H:aa)(k:Nat)(lo hi mx:Option Int)(K:AV→aa→Prop):AV→Prop
 | .d (.list _ es)=>(∀c∈es,c.length=k)∧(match lo,hi,mx with
  |some l,some h,some m=>0≤l∧l≤h∧h≤m∧m≤es.length∧K (.d (.list false ((es.take h.toNat).drop l.toNat))) H
  |_,_,_=>False)
 |_=>False
def mC(P:Program)(t:TypeId)(ok:Bool):Option AV:=if ok=true then(TI P t).map fun z=> .a7 [bT z.1,.d (.v (.bool false))]else none
def l6(P:Program)(t:TypeId)(ok:Bool):Option Value→Option AV
 |some (.iface t' u)=>if t'=t then some (if ok=true then .a7 [bT u,.d (.v (.bool true))]else bT u)else mC P t ok
 |some .nilIface=>mC P t ok
 |_=>none
def fD(P:Program)(t:TypeId)(ok:Bool)(H:aa)(K:AV→aa→Prop)(v:Option Value):Prop:=isIface P t=false∧match l6 P t ok v with|some r=>K r H|none=>False
def gJ(P:Program)(s:Nat→AV)(H:aa)(hint:Bool)(op:Op)(K:AV→aa→Prop):Prop:=
 match op with
 | .move x=>K (ah s x) H
 | .assign x=>K (ah s x) H
 | .pick c x y=>(match ah s c with| .d (.v (.bool t))=>K (if t then ah s x else ah s y) H|_=>False)
 | .alloc e=>(match TI P e with|some (z,k,_)=>(0<k∧z.cells.size=k∧z.cells.all Value.oneCell'=true)∧(if hint then ∃id e',H[id]?=some (.arr e' k 0 [])∧K (.ptr id 1 0 0) (H.set id (.box e k 1 1 (bE z.cells)))else K (.ptr H.length 0 0 0) (H++[.box e k 0 1 (bE z.cells)]))|none=>False)
 | .box e x=>(match cellsOf (ah s x)with|some cs=>0<cs.length∧K (.ptr H.length 0 0 0) (H++[.box e cs.length 0 1 cs])|none=>False)
 | .build t parts=>(match TI P t with
  |some (z,_,_)=>z.cells.all Value.oneCell'=true∧(match SP P t with
   |some places=>(match eh (places.toArray[·]?) (bE z.cells) (b9 s parts)with|some out=>K (.agg out) H|none=>False)
   |none=>(match AE P t with
    |some (_,e)=>(match TI P e with|some (_,ke,_)=>(match eh (fun i=>some (i* ke,ke)) (bE z.cells) (b9 s parts)with|some out=>K (.agg out) H|none=>False)|none=>False)
    |none=>False))
  |none=>False)
 | .buildSlice t n parts=>(match SE P t with
  |some e=>(match TI P e with
   |some (z,k,_)=>if n=0 then parts=#[]∧K .di H else
     (z.cells.size=k∧z.cells.all Value.oneCell'=true∧n* k≤16777216∧0<n* k)∧(match eh (fun i=>some (i* k,k)) (gV z (n* k)) (b9 s parts)with
      |some out=>(match mV out with|some ds=>if hint then K (.sl H.length 0 0 n) (H++[.arr e k 0 (chunk n k ds)])else K (.d (.list true (chunk n k ds))) H|none=>False)
      |none=>False)
   |none=>False)
  |none=>False)
 | .load t x=>(match dr P t with
  |some true=>(match TI P t with|some (_,k,_)=>(match ea H k (ah s x)with|some cs=>K (.agg cs) H|none=>False)|none=>False)
  |some false=>(match ea H 1 (ah s x)with|some [c]=>K c H|_=>False)
  |none=>False)
 | .store t x y=>(match TI P t with
  |some (_,k,_)=>(match cellsOf (ah s y)with|some cs=>cs.length=k∧(match pt H cs (ah s x)with|some H'=>K .top H'|none=>False)|none=>False)
  |none=>False)
 | .fieldAddr t x f=>(match FO P t f with
  |some (off,ft)=>(match TI P ft with|some (_,k,_)=>0<k∧fresh H (ah s x)=true∧(match fQ off (ah s x)with|some y=>K y H|none=>False)|none=>False)
  |none=>False)
 | .field t x f=>(match FO P t f with
  |some (off,ft)=>(match TI P ft with
   |some (_,k,_)=>(match ah s x with
    | .agg cs=>(match dr P ft with
     |some true=>off+k≤cs.length∧K (.agg ((cs.drop off).take k)) H
     |some false=>(match cs[off]? with|some y=>K y H|none=>False)
     |none=>False)
    |_=>False)
   |none=>False)
  |none=>False)
 | .indexAddr t x ix=>(match ah s ix with
  | .d (.v (.int _ i))=>(match SE P t with
   |some e=>(match TI P e with|some (_,k,_)=>(match gu H k i (ah s x)with|some y=>K y H|none=>False)|none=>False)
   |none=>(match AE P t with
    |some (n,e)=>(match TI P e with|some (_,k,_)=>0≤i∧i<n∧fresh H (ah s x)=true∧(match fQ (i.toNat* k) (ah s x)with|some y=>K y H|none=>False)|none=>False)
    |none=>False))
  |_=>False)
 | .index t x ix=>P.underlying t=some .string∧(match closed (ah s x),closed (ah s ix)with
  |some (.string b),some (.int _ i)=>0≤i∧(match b[i.toNat]? with|some u=>K (.d (.v (.int .u8 u.toNat))) H|none=>False)
  |_,_=>False)
 | .slice t x lo hi none=>(match SE P t with
  |some e=>(match TI P e with
   |some (_,k,_)=>cY H k (aS s lo) (fun n=>cK s n hi) K (ah s x)
   |none=>False)
  |none=>(match AE P t with
   |some (n,e)=>(lo.isNone=true∧hi.isNone=true)∧(match TI P e with|some (_,k,_)=>k=1∧wX H n K (ah s x)|none=>False)
   |none=>P.underlying t=some .string∧(match closed (ah s x)with
    |some (.string b)=>(match aS s lo,cK s b.size hi with
     |some l,some h=>0≤l∧l≤h∧h≤b.size∧K (.d (.v (.string (b.extract l.toNat h.toNat)))) H
     |_,_=>False)
    |_=>False)))
 | .slice t x lo (some hi) (some mx)=>(match SE P t with
  |some e=>(match TI P e with
   |some (_,k,_)=>eR H k (aS s lo) (aS s (some hi)) (aS s (some mx)) K (ah s x)
   |none=>False)
  |none=>False)
 | .sliceToArrayPointer t x=>(match AE P t,ah s x with
  |some (n,_),.d (.list _ es)=>(match Ee es with
   |some ds=>(0<n∧n≤ds.length)∧K (.cc (ds.take n)) H
   |none=>False)
  |_,_=>False)
 | .typeAssert x _ t ok=>fD P t ok H K (closed (ah s x))
 | .binOp op t x y _=>(match closed (ah s x),closed (ah s y)with
  |some u,some v=>cw P op t u v fun r=>K (bT r) H
  |_,_=>lg P H op t (ah s x) (ah s y)=true∧K (.d (.v (.bool (ox op)))) H)
 | .unOp op _ x=>(match closed (ah s x)with|some u=>BO op u fun r=>K (bT r) H|none=>False)
 | .convert src dst x=>(match SE P src with
  |some e=>UK P e=some .u8∧P.underlying dst=some .string∧(match ah s x with| .d (.list _ es)=>(match iK es with|some ns=>K (.d (.v (.string (kx ns)))) H|none=>False)|_=>False)
  |none=>(match closed (ah s x)with
   |some (.int _ n)=>(match UK P src,UK P dst with|some _,some k=>K (.d (.v (.int k (k.wrap n)))) H|_,_=>False)
   |_=>False))
 | .extract x i=>(match ah s x with| .a7 cs=>(match cs[i]? with|some c=>K c H|none=>False)|_=>False)
 | .makeFunc (.func f) first caps=>first=#[]∧K (.fn f (caps.toList.map (ah s))) H
 | .nilCheck x=>sv H (ah s x)=true∧K (ah s x) H
 | .makeInterface t x=>(match closed (ah s x)with|some u=>isIface P t=false∧K (.d (.v (.iface t u))) H|none=>False)
 | .makeMap t none=>(match MT P t with|some (kk,_,_)=>K (.mp H.length) (H++[.mp kk []])|none=>False)
 | .makeSlice t l c=>(match SE P t with
  |some e=>(match TI P e with
   |some (z,k,b)=>(match closed (ah s l),closed (ah s c)with
    |some (.int _ n),some (.int _ m)=>(0<k∧z.cells.size=k∧z.cells.all Value.oneCell'=true∧m=n∧0≤n∧n≤1000000000000∧n* (b:Int)≤140737488355328)∧K (.sl H.length 0 0 n.toNat) (H++[.arr e k 0 (List.replicate n.toNat (z.cells.toList.map D.v))])
    |_,_=>False)
   |none=>False)
  |none=>False)
 | .range t x=>(match MT P t with
  |some (kk,_,_)=>(match ah s x with
   | .mp id=>(match H[id]? with
    |some (.mp kk' es)=>kk'=kk∧K (.ptr H.length 0 0 0) (H++[.iter id es.length []])
    |_=>False)
   |_=>False)
  |none=>False)
 | .entry x=>(match ah s x with
  | .ptr id 0 0 0=>(match H[id]? with
   |some (.iter m since seen)=>(match H[m]?,seen.getLast? with
    |some (.mp kk es),some j=>(match es[j]? with
     |some e=>since=es.length∧K (.a7 [.d (.v (.int kk e.1)),e.2]) H
     |none=>False)
    |_,_=>False)
   |_=>False)
  |_=>False)
 | .next x false=>(match ah s x with
  | .ptr id 0 0 0=>(match H[id]? with
   |some (.iter m since seen)=>(match H[m]? with
    |some (.mp kk es)=>since=es.length∧((∀j,j<es.length→j∈seen)→K (.a7 [.d (.v (.bool false))]) H)∧
      ∀j e,es[j]?=some e→j∉seen→K (.a7 [.d (.v (.bool true)),.d (.v (.int kk e.1)),e.2]) (H.set id (.iter m since (seen++[j])))
    |_=>False)
   |_=>False)
  |_=>False)
 | .lookup t x ix ok=>(match MT P t with
  |some (kk,_,e)=>(match TI P e with
   |some (z,_,_)=>(match ah s x with
    | .mp id=>(match H[id]? with
     |some (.mp kk' es)=>(match closed (ah s ix)with
      |some (.int ki n)=>(kk'=kk∧ki=kk)∧K (if ok then .a7 [(ed n es).getD (bT z),.d (.v (.bool (ed n es).isSome))]else(ed n es).getD (bT z)) H
      |_=>False)
     |_=>False)
    |_=>False)
   |none=>False)
  |none=>False)
 | .mapUpdate t x ix y| .insert t x ix y=>(match MT P t with
  |some (kk,_,_)=>(match ah s x with
   | .mp id=>(match H[id]? with
    |some (.mp kk' es)=>(match closed (ah s ix)with
     |some (.int ki n)=>(kk'=kk∧ki=kk)∧K .top (H.set id (.mp kk (j6 n (ah s y) es)))
     |_=>False)
    |_=>False)
   |_=>False)
  |none=>False)
 | .call c=>(match c.callee with| .builtin b=>b7 P s H b c.args.toList c.argTypes.toList K|_=>False)
 |_=>False
section
variable {P:Program} {o:Oper} {a:Act} {w:World} {H:aa} {φ:aK} {N:Addr→Prop} {s:Nat→AV}
theorem my(c:Call)(b:Builtin)(xs:List Operand)(ts:List TypeId)(h1:c.callee= .builtin b)(h2:c.args.toList=xs)(h3:c.argTypes.toList=ts):c={callee:= .builtin b,args:=xs.toArray,argTypes:=ts.toArray}:=by
 cases c
 simp only at h1 h2 h3
 subst h1 h2 h3
 simp
theorem pE(hT:bI H φ N w s a){k:IntKind}:∀{xs:List Operand} {ns:List Int},b6 s k xs=some ns→xs.map a.eval=ns.map (Value.int k)
 |[],ns,h=>by cases h;rfl
 |x::xs,ns,h=>by
  unfold b6 at h
  split at h
  ·rename_i k' n ns' hx hr
   split at h
   ·rename_i hk
    subst hk
    cases h
    simp only[List.map_cons]
    rw[pE hT hr,bC (ar hT x) hx]
   ·cases h
  ·cases h
theorem tS(P:Program)(w:World)(k:IntKind):∀(ns:List Int) (n:Int),((ns.map (Value.int k)).foldlM Go.Builtin.min2 (Value.int k n)).run P w= .ok (.int k (ns.foldl min n)) w
 |[],n=>rfl
 |m::ns,n=>by
  simp only[List.map_cons,List.foldlM_cons,List.foldl_cons,Sem.run_bind]
  have:(Go.Builtin.min2 (.int k n) (.int k m)).run P w= .ok (.int k (min n m)) w:=by
   have e:(if m<n then m else n)=min n m:=by split<;>omega
   show(pure (Value.int k (if m<n then m else n)):Sem Value).run P w=_
   rw[e];rfl
  rw[this]
  exact tS P w k ns (min n m)
theorem vj(P:Program)(w:World)(k:IntKind):∀(ns:List Int) (n:Int),((ns.map (Value.int k)).foldlM Go.Builtin.max2 (Value.int k n)).run P w= .ok (.int k (ns.foldl max n)) w
 |[],n=>rfl
 |m::ns,n=>by
  simp only[List.map_cons,List.foldlM_cons,List.foldl_cons,Sem.run_bind]
  have:(Go.Builtin.max2 (.int k n) (.int k m)).run P w= .ok (.int k (max n m)) w:=by
   have e:(if m>n then m else n)=max n m:=by split<;>omega
   show(pure (Value.int k (if m>n then m else n)):Sem Value).run P w=_
   rw[e];rfl
  rw[this]
  exact vj P w k ns (max n m)
theorem rh(hR:Rel H φ N w)(hT:bI H φ N w s a){c:Call}(ho:o.op= .call c)(b:Builtin)(hb:b= .min∨b= .max)(hc:c.callee= .builtin b)(x:Operand)(xs:List Operand)(hxs:c.args.toList=x::xs)(k:IntKind)(n:Int)(hx:closed (ah s x)=some (.int k n))(ns:List Int)
  (h:b6 s k xs=some ns):bW P o a w H φ N (.d (.v (.int k (if b= .min then ns.foldl min n else ns.foldl max n)))) H:=by
 refine .same hR (.d (.v _ rfl)) ?_
 have e1:c.args.map a.eval=(Value.int k n::ns.map (Value.int k)).toArray:=by
  apply Array.toList_inj.1
  rw[Array.toList_map,hxs,List.map_cons,pE hT h,bC (ar hT x) hx]
 rcases hb with rfl|rfl
 ·simp[execOp,ho,resolve,invoke,hc,e1,Go.builtin,Go.Builtin.min_,tS]
 ·simp[execOp,ho,resolve,invoke,hc,e1,Go.builtin,Go.Builtin.max_,vj]
theorem AI(hR:Rel H φ N w)(hT:bI H φ N w s a)(x:Operand)(xT t:TypeId)(ok:Bool)(ho:o.op= .typeAssert x xT t ok)(hi:isIface P t=false)(r:AV)(h:l6 P t ok (closed (ah s x))=some r):bW P o a w H φ N r H:=by
 obtain⟨u,hu⟩:∃u,P.underlying t=some u∧∀ms,u≠ .interface ms:=by
  unfold isIface at hi
  split at hi
  ·cases hi
  ·rename_i d hd hn
   exact⟨_,hn,fun ms hms=>hd ms (by rw[←hms])⟩
  ·cases hi
 have no:∀v,(v= .nilIface∨∃t' u',v= .iface t' u'∧t'≠t)→mC P t ok=some r→a.eval x=v→bW P o a w H φ N r H:=by
  intro v hv hn he
  unfold mC at hn
  split at hn
  ·rename_i hok
   subst hok
   obtain⟨⟨z,k,b⟩,hz,rfl⟩:=Option.map_eq_some_iff.1 hn
   refine .same hR (x:= .tuple #[z,.bool false]) (.a7 _ _ rfl fun i h1 h2=>?_) ?_
   ·match i,h1 with
    |0,_=>exact dJ z
    |1,_=>exact .d (.v _ rfl)
   ·simp only[execOp,ho,he,Instr.typeAssert,Sem.run_bind,run_underlying hu.1,Result.andThen_ok]
    rcases hv with rfl|⟨t',u',rfl,hne⟩
    ·cases u<;>first|(exact absurd rfl (hu.2 _))|simp[TI.zero hz]
    ·cases u<;>first|(exact absurd rfl (hu.2 _))|simp[TI.zero hz,hne]
  ·cases hn
 generalize hc:closed (ah s x)=c at h
 unfold l6 at h
 split at h
 ·rename_i t' u'
  have he:=bC (ar hT x) hc
  split at h
  ·rename_i ht
   subst ht
   cases h
   cases ok with
   |true=>
    refine .same hR (x:= .tuple #[u',.bool true]) (.a7 _ _ rfl fun i h1 h2=>?_) ?_
    ·match i,h1 with
     |0,_=>exact dJ u'
     |1,_=>exact .d (.v _ rfl)
    ·simp only[execOp,ho,he,Instr.typeAssert,Sem.run_bind,run_underlying hu.1,Result.andThen_ok]
     cases u<;>first|(exact absurd rfl (hu.2 _))|simp
   |false=>
    refine .same hR (x:=u') (dJ u') ?_
    simp only[execOp,ho,he,Instr.typeAssert,Sem.run_bind,run_underlying hu.1,Result.andThen_ok]
    cases u<;>first|(exact absurd rfl (hu.2 _))|simp
  ·rename_i ht
   exact no _ (.inr ⟨_,_,rfl,ht⟩) h he
 ·exact no _ (.inl rfl) h (bC (ar hT x) hc)
 ·cases h
theorem nw(hR:Rel H φ N w)(hT:bI H φ N w s a){c:Call}(ho:o.op= .call c){b:Builtin}(hc:c.callee= .builtin b){K:AV→aa→Prop}(h:b7 P s H b c.args.toList c.argTypes.toList K):
  ∃r H',K r H'∧bW P o a w H φ N r H':=by
 generalize hxs:c.args.toList=xs at h
 generalize hts:c.argTypes.toList=ts at h
 unfold b7 at h
 split at h
 ·rename_i x t
  have ho':=ho.trans (congrArg Op.call (my c _ _ _ hc hxs hts))
  split at h
  ·rename_i e he
   split at h
   ·rename_i n hn
    exact⟨_,_,h,FT hR hT x t ho' e he n hn⟩
   ·exact h.elim
  ·split at h
   ·rename_i kk kt e hmt
    split at h
    ·rename_i id hx
     split at h
     ·rename_i kk' es hob
      obtain⟨rfl,h⟩:=h
      exact⟨_,_,h,yc hR hT x t ho' _ kt e hmt id es hx hob⟩
     ·exact h.elim
    ·exact h.elim
   ·obtain⟨hu,h⟩:=h
    split at h
    ·rename_i b hb
     exact⟨_,_,h,wE hR hT x t ho' hu b hb⟩
    ·exact h.elim
 ·rename_i x y t t'
  have ho':=ho.trans (congrArg Op.call (my c _ _ _ hc hxs hts))
  split at h
  ·rename_i e he
   split at h
   ·rename_i z k b hi
    obtain⟨⟨hz,hk0⟩,h⟩:=h
    split at h
    ·rename_i news hy
     obtain⟨hk,h⟩:=h
     unfold pM at hy
     split at hy
     ·rename_i htt
      have htt:t'=t∨∃e',SE P t'=some e':=htt.imp id fun h=>Option.isSome_iff_exists.1 h
      split at h
      ·rename_i id ver len hx
       split at h
       ·rename_i e' k' ver' es hob
        obtain⟨⟨rfl,rfl,rfl,rfl⟩,hb,hm,h⟩:=h
        exact⟨_,_,h,An hR hT x y _ _ htt ho' e' he z k' b hi hz id ver' es news hx hob hy hk hb hm⟩
       ·exact h.elim
      ·obtain⟨hx,hb,hm,h⟩:=h
       exact⟨_,_,h,qw hR hT x y _ _ htt ho' e he z k b hi hz hk0 news hx hy hk hb hm⟩
     ·split at hy
      ·rename_i sb hys
       split at hy
       ·rename_i hst
        obtain⟨hst,rfl⟩:=hst
        cases hy
        split at h
        ·rename_i id ver len hx
         split at h
         ·rename_i e' k' ver' es hob
          obtain⟨⟨rfl,rfl,rfl,rfl⟩,hb,hm,h⟩:=h
          exact⟨_,_,h,qm hR hT x y _ _ ho' e' he (qG.get hst) z b hi hz id ver' es sb hx hob hys hb hm⟩
         ·exact h.elim
        ·obtain⟨hx,hb,hm,h⟩:=h
         exact⟨_,_,h,l7 hR hT x y _ _ ho' e he (qG.get hst) z b hi hz sb hx hys hb hm⟩
       ·cases hy
      ·cases hy
    ·exact h.elim
   ·exact h.elim
  ·exact h.elim
 ·rename_i x t
  have ho':=ho.trans (congrArg Op.call (my c _ _ _ hc hxs hts))
  split at h
  ·rename_i e he
   split at h
   ·rename_i z k b hi
    obtain⟨⟨hz,h1⟩,h⟩:=h
    split at h
    ·rename_i id ver off len hx
     split at h
     ·rename_i e' k' ver' es hob
      obtain⟨⟨rfl,rfl,rfl⟩,h⟩:=h
      exact⟨_,_,h,B5 hR hT x t ho' e' he z k' b hi hz h1 id ver' off len es hx hob⟩
     ·exact h.elim
    ·exact h.elim
   ·exact h.elim
  ·exact h.elim
 ·rename_i x y t t'
  have ho':=ho.trans (congrArg Op.call (my c _ _ _ hc hxs hts))
  split at h
  ·rename_i e he
   split at h
   ·rename_i z k b hi
    split at h
    ·rename_i news hy
     obtain⟨hk,h⟩:=h
     split at h
     ·rename_i id ver off len hx
      split at h
      ·rename_i e' k' ver' es hob
       obtain⟨⟨rfl,rfl,rfl⟩,h⟩:=h
       exact⟨_,_,h,DR hR hT x y t t' ho' e' he z k' b hi id ver' off len es hx hob news (Cw hR (ar hT y) hy hk) hk⟩
      ·exact h.elim
     ·exact h.elim
    ·exact h.elim
   ·exact h.elim
  ·exact h.elim
 ·rename_i x xs
  split at h
  ·rename_i k n hx
   split at h
   ·rename_i ns hns
    exact⟨_,_,h,by simpa using rh (P:=P) hR hT ho .min (.inl rfl) hc x xs hxs k n hx ns hns⟩
   ·exact h.elim
  ·exact h.elim
 ·rename_i x xs
  split at h
  ·rename_i k n hx
   split at h
   ·rename_i ns hns
    exact⟨_,_,h,by simpa using rh (P:=P) hR hT ho .max (.inr rfl) hc x xs hxs k n hx ns hns⟩
   ·exact h.elim
  ·exact h.elim
 ·exact h.elim
theorem Gf(hR:Rel H φ N w)(hT:bI H φ N w s a){hint:Bool}{K:AV→aa→Prop}(h:gJ P s H hint o.op K):∃r H',K r H'∧bW P o a w H φ N r H':=by
 generalize ho:o.op=op at h
 unfold gJ at h
 split at h
 ·exact⟨_,_,h,zG hR hT _ (.inl ho)⟩
 ·exact⟨_,_,h,zG hR hT _ (.inr ho)⟩
 ·split at h
  ·rename_i t ht
   exact⟨_,_,h,DI hR hT _ _ _ ho t ht⟩
  ·exact h.elim
 ·split at h
  ·rename_i z k b hi
   obtain⟨g,h⟩:=h
   split at h
   ·obtain⟨id,e',hob,h⟩:=h
    exact⟨_,_,h,vh hR _ z k b ho hi g.1 g.2.1 g.2.2 id e' hob⟩
   ·exact⟨_,_,h,Ch hR _ z k b ho hi g.1 g.2.1 g.2.2⟩
  ·exact h.elim
 ·split at h
  ·rename_i cs hc
   exact⟨_,_,h.2,Fv hR hT _ _ ho cs hc h.1⟩
  ·exact h.elim
 ·split at h
  ·rename_i z k b hi
   obtain⟨hz,h⟩:=h
   split at h
   ·rename_i places hp
    split at h
    ·rename_i out hout
     exact⟨_,_,h,nX hR hT _ _ ho places hp z k b hi hz out hout⟩
    ·exact h.elim
   ·split at h
    ·rename_i n e hp
     split at h
     ·rename_i ze ke be hie
      split at h
      ·rename_i out hout
       exact⟨_,_,h,oC hR hT _ _ ho n e hp z ze k b ke be hi hie hz out hout⟩
      ·exact h.elim
     ·exact h.elim
    ·exact h.elim
  ·exact h.elim
 ·split at h
  ·rename_i e he
   split at h
   ·rename_i z k b hi
    split at h
    ·rename_i hn
     subst hn
     obtain⟨rfl,h⟩:=h
     exact⟨_,_,h,lq hR _ ho e he z k b hi⟩
    ·obtain⟨⟨hz,h1,h24,hn⟩,h⟩:=h
     split at h
     ·rename_i out hout
      split at h
      ·rename_i ds hd
       split at h
       ·exact⟨_,_,h,l8 hR hT _ _ _ ho e he z k b hi hz h1 h24 hn out hout ds hd⟩
       ·exact⟨_,_,h,qv hR hT _ _ _ ho e he z k b hi hz h1 h24 hn out hout ds hd⟩
      ·exact h.elim
     ·exact h.elim
   ·exact h.elim
  ·exact h.elim
 ·split at h
  ·rename_i hg
   split at h
   ·rename_i z k b hi
    split at h
    ·rename_i cs hcs
     exact⟨_,_,h,vD hR hT _ _ ho hg z k b hi cs hcs⟩
    ·exact h.elim
   ·exact h.elim
  ·rename_i hg
   split at h
   ·rename_i c hcs
    exact⟨_,_,h,u3 hR hT _ _ ho hg c hcs⟩
   ·exact h.elim
  ·exact h.elim
 ·split at h
  ·rename_i z k b hi
   split at h
   ·rename_i cs hcs
    obtain⟨hk,h⟩:=h
    split at h
    ·rename_i H' hw
     exact⟨_,_,h,Dy hR hT _ _ _ ho z k b hi cs hcs hk H' hw⟩
    ·exact h.elim
   ·exact h.elim
  ·exact h.elim
 ·split at h
  ·rename_i off ft hf
   split at h
   ·rename_i z k b hi
    obtain⟨hk,hfr,h⟩:=h
    split at h
    ·rename_i y hy
     exact⟨_,_,h,sm hR hT _ _ _ ho off ft hf z k b hi hk y hy hfr⟩
    ·exact h.elim
   ·exact h.elim
  ·exact h.elim
 ·split at h
  ·rename_i off ft hf
   split at h
   ·rename_i z k b hi
    split at h
    ·rename_i cs hcs
     split at h
     ·rename_i hg
      exact⟨_,_,h.2,u4 hR hT _ _ _ ho off ft hf z k b hi cs hcs true hg _ (by simpa using h.1)⟩
     ·rename_i hg
      split at h
      ·rename_i y hy
       exact⟨_,_,h,u4 hR hT _ _ _ ho off ft hf z k b hi cs hcs false hg y (by simpa using hy)⟩
      ·exact h.elim
     ·exact h.elim
    ·exact h.elim
   ·exact h.elim
  ·exact h.elim
 ·split at h
  ·rename_i ik i hix
   split at h
   ·rename_i e he
    split at h
    ·rename_i z k b hi
     split at h
     ·rename_i y hy
      exact⟨_,_,h,td hR hT _ _ _ ho e he z k b hi ik i hix y hy⟩
     ·exact h.elim
    ·exact h.elim
   ·split at h
    ·rename_i n e he
     split at h
     ·rename_i z k b hi
      obtain⟨h0,h1,hfr,h⟩:=h
      split at h
      ·rename_i y hy
       exact⟨_,_,h,ni hR hT _ _ _ ho n e he z k b hi ik i hix h0 h1 y hy hfr⟩
      ·exact h.elim
     ·exact h.elim
    ·exact h.elim
  ·exact h.elim
 ·obtain⟨hu,h⟩:=h
  split at h
  ·rename_i b k i hx hi
   obtain⟨h0,h⟩:=h
   split at h
   ·rename_i u hb
    exact⟨_,_,h,s4 hR hT _ _ _ ho hu b hx k i hi h0 u hb⟩
   ·exact h.elim
  ·exact h.elim
 ·split at h
  ·rename_i e he
   split at h
   ·rename_i z k b hi
    unfold cY at h
    split at h
    ·rename_i nn es hx
     obtain⟨hes,h⟩:=h
     split at h
     ·rename_i l hh hl hhh
      obtain⟨h0,h1,h2,h⟩:=h
      exact⟨_,_,h,qd hR hT _ _ _ _ ho e he z k b hi nn es hx hes l hh hl hhh h0 h1 h2⟩
     ·exact h.elim
    ·rename_i id ver off len hx
     split at h
     ·rename_i ob l hh hob hl hhh
      obtain⟨⟨h00,h01,_⟩,h0,h1,h2,h3,h⟩:=h
      exact⟨_,_,h,uR hR hT _ _ _ _ ho e he z k b hi id ver off len hx ob hob h00 h01 l hh hl hhh h0 h1 h2 h3⟩
     ·exact h.elim
    ·exact h.elim
   ·exact h.elim
  ·split at h
   ·rename_i n e hae
    obtain⟨⟨hlo,hhi⟩,h⟩:=h
    split at h
    ·rename_i z k b hi
     obtain⟨rfl,h⟩:=h
     unfold wX at h
     split at h
     ·rename_i ds hx
      exact⟨_,_,h.2,qn hR hT _ _ _ _ ho hlo hhi e n hae z b hi ds hx h.1⟩
     ·exact h.elim
    ·exact h.elim
   ·obtain⟨hu,h⟩:=h
    split at h
    ·rename_i b hx
     split at h
     ·rename_i l hh hl hhh
      obtain⟨h0,h1,h2,h⟩:=h
      exact⟨_,_,h,te hR hT _ _ _ _ ho hu b hx l hh hl hhh h0 h1 h2⟩
     ·exact h.elim
    ·exact h.elim
 ·split at h
  ·rename_i e he
   split at h
   ·rename_i z k b hi
    unfold eR at h
    split at h
    ·rename_i nn es hx
     obtain⟨hes,h⟩:=h
     split at h
     ·rename_i l hh m hl hhh hmm
      obtain⟨h0,h1,h2,h3,h⟩:=h
      exact⟨_,_,h,om hR hT _ _ _ _ _ ho e he z k b hi nn es hx hes l hh m hl hhh hmm h0 h1 h2 h3⟩
     ·exact h.elim
    ·exact h.elim
   ·exact h.elim
  ·exact h.elim
 ·split at h
  ·rename_i n e nn es hae hx
   split at h
   ·rename_i ds hds
    obtain⟨⟨h0,h1⟩,h⟩:=h
    rw[zc hds]at hx
    exact⟨_,_,h,wM hR hT _ _ ho e n hae nn ds hx h0 h1⟩
   ·exact h.elim
  ·exact h.elim
 ·obtain⟨hi,h⟩:=h
  split at h
  ·rename_i r hr
   exact⟨_,_,h,AI hR hT _ _ _ _ ho hi r hr⟩
  ·exact h.elim
 ·split at h
  ·rename_i u v hx hy
   obtain⟨r,hr,h⟩:=EN h
   exact⟨_,_,h,GO hR hT _ _ _ _ _ ho u v r hx hy hr⟩
  ·exact⟨_,_,h.2,BJ hR hT _ _ _ _ _ ho h.1⟩
 ·split at h
  ·rename_i u hx
   obtain⟨r,h,hok⟩:=IL hR hT _ _ _ ho u hx _ h
   exact⟨_,_,h,hok⟩
  ·exact h.elim
 ·split at h
  ·rename_i e he
   obtain⟨h1,h2,h⟩:=h
   split at h
   ·rename_i nn es hx
    split at h
    ·rename_i ns hn
     exact⟨_,_,h,nb hR hT _ _ _ _ ho he h1 h2 nn es ns hx hn⟩
    ·exact h.elim
   ·exact h.elim
  ·split at h
   ·rename_i ks n hx
    split at h
    ·rename_i k' k hk' hk
     exact⟨_,_,h,pJ hR hT _ _ _ ho ks k' n hx hk' k hk⟩
    ·exact h.elim
   ·exact h.elim
 ·split at h
  ·rename_i cs hx
   split at h
   ·rename_i c hc
    exact⟨_,_,h,wQ hR hT _ _ ho cs hx c hc⟩
   ·exact h.elim
  ·exact h.elim
 ·obtain⟨rfl,h⟩:=h
  exact⟨_,_,h,ue hR hT _ _ ho⟩
 ·exact⟨_,_,h.2,vq hR hT _ ho h.1⟩
 ·split at h
  ·rename_i u hx
   exact⟨_,_,h.2,m8 hR hT _ _ ho u hx h.1⟩
  ·exact h.elim
 ·split at h
  ·rename_i kk kt e hmt
   exact⟨_,_,h,wA hR _ ho kk kt e hmt⟩
  ·exact h.elim
 ·split at h
  ·rename_i e he
   split at h
   ·rename_i z k b hi
    split at h
    ·rename_i kl n kc m hl hc
     obtain⟨⟨h1,h2,h3,rfl,h5,h6,h7⟩,h⟩:=h
     exact⟨_,_,h,tn hR hT _ _ _ ho e he z k b hi h1 h2 h3 kl kc m hl hc h5 h6 h7⟩
    ·exact h.elim
   ·exact h.elim
  ·exact h.elim
 ·split at h
  ·rename_i kk kt e hmt
   split at h
   ·rename_i id hx
    split at h
    ·rename_i kk' es hob
     obtain⟨rfl,h⟩:=h
     exact⟨_,_,h,Cu hR hT _ _ ho _ kt e hmt id es hx hob⟩
    ·exact h.elim
   ·exact h.elim
  ·exact h.elim
 ·split at h
  ·rename_i id hx
   split at h
   ·rename_i m since seen hob
    split at h
    ·rename_i kk es j hm hj
     split at h
     ·rename_i e he
      obtain⟨rfl,h⟩:=h
      exact⟨_,_,h,Cn hR hT _ ho id m seen kk es hx hob hm j hj e he⟩
     ·exact h.elim
    ·exact h.elim
   ·exact h.elim
  ·exact h.elim
 ·split at h
  ·rename_i id hx
   split at h
   ·rename_i m since seen hob
    split at h
    ·rename_i kk es hm
     obtain⟨rfl,h1,h2⟩:=h
     rcases En hR hT _ ho id m seen kk es hx hob hm with⟨g1,g2⟩|⟨j,e,g1,g2,g3⟩
     ·exact⟨_,_,h1 g1,g2⟩
     ·exact⟨_,_,h2 j e g1 g2,g3⟩
    ·exact h.elim
   ·exact h.elim
  ·exact h.elim
 ·split at h
  ·rename_i kk kt e hmt
   split at h
   ·rename_i z k b hi
    split at h
    ·rename_i id hx
     split at h
     ·rename_i kk' es hob
      split at h
      ·rename_i ki n hix
       obtain⟨⟨rfl,rfl⟩,h⟩:=h
       exact⟨_,_,h,Ad hR hT _ _ _ _ ho _ kt e hmt z k b hi id es hx hob n hix⟩
      ·exact h.elim
     ·exact h.elim
    ·exact h.elim
   ·exact h.elim
  ·exact h.elim
 ·split at h
  ·rename_i kk kt e hmt
   split at h
   ·rename_i id hx
    split at h
    ·rename_i kk' es hob
     split at h
     ·rename_i ki n hix
      obtain⟨⟨rfl,rfl⟩,h⟩:=h
      exact⟨_,_,h,mi hR hT _ _ _ _ (.inl ho) _ kt e hmt id es hx hob n hix⟩
     ·exact h.elim
    ·exact h.elim
   ·exact h.elim
  ·exact h.elim
 ·split at h
  ·rename_i kk kt e hmt
   split at h
   ·rename_i id hx
    split at h
    ·rename_i kk' es hob
     split at h
     ·rename_i ki n hix
      obtain⟨⟨rfl,rfl⟩,h⟩:=h
      exact⟨_,_,h,mi hR hT _ _ _ _ (.inr ho) _ kt e hmt id es hx hob n hix⟩
     ·exact h.elim
    ·exact h.elim
   ·exact h.elim
  ·exact h.elim
 ·split at h
  ·rename_i c b hb
   exact nw hR hT ho hb h
  ·exact h.elim
 ·exact h.elim
end
end Go.Proofs.YtggohfhfocgilaaGreatAw

/- Contracts of functions and lemmas for planAll_holds, part 5. -/
import Derived.Shelf.Sort.Plain
import Derived.Shelf.Slices.In.SortNone
import Derived.Test.YtggohfhfocgilaaGreatProg
import Derived.Laws.Externs
import Derived.Laws.Bits64b
import Derived.Laws.Bits64
import Derived.Test.YtggohfhfocgilaaGreatM04
set_option maxHeartbeats 8000000
set_option maxRecDepth 100000
set_option linter.all false
namespace Go.Proofs.YtggohfhfocgilaaGreat
open Go.Shelf
def vH:Go.Shelf.Ren:=⟨fun|189=>150|125=>182|257=>181|128=>220|129=>207|294=>211|295=>212|296=>213|297=>214|298=>215|299=>216|216=>217|300=>218|301=>219|328=>243|329=>244|330=>245|331=>246|332=>247|215=>222|343=>263|n=>n,fun|28=>23|3=>3|46=>207|0=>0|51=>89|53=>40|4=>4|183=>272|182=>271|131=>277|5=>5|9=>9|218=>307|222=>310|228=>328|229=>329|n=>n,fun|n=>n⟩
theorem zj:Go.Proofs.Lays.n189 Tryz.prog vH:={
 mixed:=by kernel_rfl
 f125:=Tryz.func182.trans (congrArg some (by kernel_rfl))
 f128:=Tryz.func220.trans (congrArg some (by kernel_rfl))
 f129:=Tryz.func207.trans (congrArg some (by kernel_rfl))
 f189:=Tryz.func150.trans (congrArg some (by kernel_rfl))
 f215:=Tryz.func222.trans (congrArg some (by kernel_rfl))
 f216:=Tryz.func217.trans (congrArg some (by kernel_rfl))
 f257:=Tryz.func181.trans (congrArg some (by kernel_rfl))
 f294:=Tryz.func211.trans (congrArg some (by kernel_rfl))
 f295:=Tryz.func212.trans (congrArg some (by kernel_rfl))
 f296:=Tryz.func213.trans (congrArg some (by kernel_rfl))
 f297:=Tryz.func214.trans (congrArg some (by kernel_rfl))
 f298:=Tryz.func215.trans (congrArg some (by kernel_rfl))
 f299:=Tryz.func216.trans (congrArg some (by kernel_rfl))
 f300:=Tryz.func218.trans (congrArg some (by kernel_rfl))
 f301:=Tryz.func219.trans (congrArg some (by kernel_rfl))
 f328:=Tryz.func243.trans (congrArg some (by kernel_rfl))
 f329:=Tryz.func244.trans (congrArg some (by kernel_rfl))
 f330:=Tryz.func245.trans (congrArg some (by kernel_rfl))
 f331:=Tryz.func246.trans (congrArg some (by kernel_rfl))
 f332:=Tryz.func247.trans (congrArg some (by kernel_rfl))
 f343:=Tryz.func263.trans (congrArg some (by kernel_rfl))
 t0:=Tryz.underlying0
 a0:=Tryz.isAgg0
 z0:=Tryz.sizeOf0
 v0:=Tryz.zeroValue0
 t3:=Tryz.underlying3
 a3:=Tryz.isAgg3
 z3:=Tryz.sizeOf3
 v3:=Tryz.zeroValue3
 t4:=Tryz.underlying4
 a4:=Tryz.isAgg4
 z4:=Tryz.sizeOf4
 v4:=Tryz.zeroValue4
 t5:=Tryz.underlying5
 a5:=Tryz.isAgg5
 z5:=Tryz.sizeOf5
 v5:=Tryz.zeroValue5
 t9:=Tryz.underlying9
 a9:=Tryz.isAgg9
 z9:=Tryz.sizeOf9
 v9:=Tryz.zeroValue9
 t28:=Tryz.underlying23
 a28:=Tryz.isAgg23
 z28:=Tryz.sizeOf23
 v28:=Tryz.zeroValue23
 t46:=Tryz.underlying207
 a46:=Tryz.isAgg207
 z46:=Tryz.sizeOf207
 v46:=Tryz.zeroValue207
 t51:=Tryz.underlying89
 a51:=Tryz.isAgg89
 z51:=Tryz.sizeOf89
 v51:=Tryz.zeroValue89
 t53:=Tryz.underlying40
 a53:=Tryz.isAgg40
 z53:=Tryz.sizeOf40
 v53:=Tryz.zeroValue40
 t131:=Tryz.underlying277
 a131:=Tryz.isAgg277
 z131:=Tryz.sizeOf277
 v131:=Tryz.zeroValue277
 t182:=Tryz.underlying271
 a182:=Tryz.isAgg271
 z182:=Tryz.sizeOf271
 v182:=Tryz.zeroValue271
 t183:=Tryz.underlying272
 a183:=Tryz.isAgg272
 z183:=Tryz.sizeOf272
 v183:=Tryz.zeroValue272
 t218:=Tryz.underlying307
 a218:=Tryz.isAgg307
 z218:=Tryz.sizeOf307
 v218:=Tryz.zeroValue307
 t222:=Tryz.underlying310
 a222:=Tryz.isAgg310
 z222:=Tryz.sizeOf310
 v222:=Tryz.zeroValue310
 t228:=Tryz.underlying328
 a228:=Tryz.isAgg328
 z228:=Tryz.sizeOf328
 v228:=Tryz.zeroValue328
 t229:=Tryz.underlying329
 a229:=Tryz.isAgg329
 z229:=Tryz.sizeOf329
 v229:=Tryz.zeroValue329}
end Go.Proofs.YtggohfhfocgilaaGreat
namespace Go.Proofs.YtggohfhfocgilaaGreatAw
open Go.RowKit
def cX(P:Program)(H:aa)(s:Nat→AV):ResultVar→Option AV
 | .tmp t=>some (s t)
 | .cell a t=>(dr P t).bind fun b=>if b=true then(TI P t).bind fun z=>(ea H z.2.1 (s a)).map .agg else KF (ea H 1 (s a))
def bH(P:Program)(H:aa)(s:Nat→AV):List ResultVar→Option (List AV)
 |[]=>some []
 |r::rs=>(cX P H s r).bind fun x=>(bH P H s rs).map (x::·)
def cV(P:Program)(rs:List ResultVar)(H0:aa)(res:mv)(H':aa):aQ:=fun e s H=>
 match e with
 | .normal| .ret=>∃avs s',bH P H s rs=some avs∧ak H0 (fun t=>avs.getD t .top) H s' H'∧res= .ok (jV (List.range avs.length) s')
 | .panic v=>∃s',ak H0 s H s' H'∧res= .panic v
 |_=>False
section
variable {P:Program} {H:aa} {φ:aK} {N:Addr→Prop} {w:World} {s:Nat→AV} {a:Act}
theorem uc(hR:Rel H φ N w){x:AV}{v:Value}(hx:RA H φ N w x v){t:TypeId}(hg:dr P t=some true){z:Value}{k b:Nat}(hi:TI P t=some (z,k,b)){cs:List AV}(h:ea H k x=some cs):
  ∃ad u,v= .pointer (some ad)∧(loadVar t ad).run P w= .ok u w∧RA H φ N w (.agg cs) u:=by
 obtain⟨hl,ad,hv,hh⟩:=lW hR hx h
 let f:Nat→Value:=fun t=>if ht:t<cs.length then(hh t ht).choose else undef
 have hf:∀t (ht:t<cs.length),w.cell? (ad.add t)=some (f t)∧RA H φ N w (cs[t]) (f t):=fun t ht=>by
  simp only[f,ht,dif_pos];exact(hh t ht).choose_spec
 have hrun:=run_loadCells (P:=P) w ad k f fun j hj=>(hf j (by omega)).1
 refine⟨ad,.agg ((List.range k).map f).toArray,hv,?_,.agg _ _ (by simp[hl]) fun i h1 h2=>?_⟩
 ·simp only[loadVar,Sem.run_bind,dr.run hg,Result.andThen_ok,if_true,TI.sizeOf hi,hrun,Sem.run_pure]
 ·simp only[List.getElem_toArray,List.getElem_map,List.getElem_range]
  exact(hf i h1).2
theorem v8(hR:Rel H φ N w){x:AV}{v:Value}(hx:RA H φ N w x v){t:TypeId}(hg:dr P t=some false){c:AV}(h:ea H 1 x=some [c]):
  ∃ad u,v= .pointer (some ad)∧(loadVar t ad).run P w= .ok u w∧RA H φ N w c u:=by
 obtain⟨hl,ad,hv,hh⟩:=lW hR hx h
 obtain⟨u,hu,hr⟩:=hh 0 (by simp)
 have hu':w.cell? ad=some u:=by simpa[Addr.add]using hu
 exact⟨ad,u,hv,by simp only[loadVar,Sem.run_bind,dr.run hg,Result.andThen_ok,Bool.false_eq_true,if_false,run_load,hu'],hr⟩
theorem Cb(hR:Rel H φ N w)(hT:bI H φ N w s a){r:ResultVar}{x:AV}(h:cX P H s r=some x):
  ∃u,(match r with| .tmp t=>pure (a.tmps.getD t undef)| .cell b t=>do loadVar t (←asAddr (a.tmps.getD b undef)):Sem Value).run P w= .ok u w∧RA H φ N w x u:=by
 cases r with
 |tmp t=>cases h;exact⟨_,rfl,hT t⟩
 |cell b t=>
  simp only[cX]at h
  obtain⟨g,hg,h⟩:=Option.bind_eq_some_iff.1 h
  cases g with
  |true=>
   rw[if_pos rfl]at h
   obtain⟨⟨z,k,bb⟩,hz,h⟩:=Option.bind_eq_some_iff.1 h
   obtain⟨cs,hc,rfl⟩:=Option.map_eq_some_iff.1 h
   obtain⟨ad,u,hv,hrun,hu⟩:=uc hR (hT b) hg hz hc
   exact⟨u,by simp only[hv,Sem.run_bind,asAddr,Sem.run_pure,Result.andThen_ok,hrun],hu⟩
  |false=>
   rw[if_neg (by simp)]at h
   have hc:ea H 1 (s b)=some [x]:=by
    revert h
    cases ea H 1 (s b)with
    |none=>intro h;cases h
    |some l=>rcases l with _|⟨c,_|⟨d,l⟩⟩<;>intro h<;>cases h;rfl
   obtain⟨ad,u,hv,hrun,hu⟩:=v8 hR (hT b) hg hc
   exact⟨u,by simp only[hv,Sem.run_bind,asAddr,Sem.run_pure,Result.andThen_ok,hrun],hu⟩
theorem rq(hR:Rel H φ N w)(hT:bI H φ N w s a):∀{rs:List ResultVar} {xs:List AV},bH P H s rs=some xs→
  ∃us:List Value,(rs.mapM fun r=>(match r with| .tmp t=>pure (a.tmps.getD t undef)| .cell b t=>do loadVar t (←asAddr (a.tmps.getD b undef)):Sem Value)).run P w= .ok us w∧xs.length=us.length∧∀i (h1:i<xs.length) (h2:i<us.length),RA H φ N w (xs[i]) (us[i])
 |[],xs,h=>by cases h;exact⟨[],rfl,rfl,fun i h1=>by simp at h1⟩
 |r::rs,xs,h=>by
  simp only[bH]at h
  obtain⟨x,hx,h⟩:=Option.bind_eq_some_iff.1 h
  obtain⟨ys,hy,rfl⟩:=Option.map_eq_some_iff.1 h
  obtain⟨u,hu,ru⟩:=Cb hR hT hx
  obtain⟨us,hus,hl,rus⟩:=rq hR hT hy
  refine⟨u::us,?_,by simp[hl],fun i h1 h2=>?_⟩
  ·rw[List.mapM_cons,Sem.run_bind,hu]
   simp only[Result.andThen_ok,Sem.run_bind,hus,Sem.run_pure]
  ·cases i with
   |zero=>exact ru
   |succ i=>simpa using rus i (by simpa using h1) (by simpa using h2)
theorem vA{fn:Func}{us:List Value}{tmps:Array Value}(h:(fn.results.toList.mapM fun r=>(match r with| .tmp t=>pure (tmps.getD t undef)| .cell b t=>do loadVar t (←asAddr (tmps.getD b undef)):Sem Value)).run P w= .ok us w):
  (results fn tmps).run P w= .ok (match us with|[u]=>u|l=> .tuple l.toArray) w:=by
 unfold results
 rw[Sem.run_bind,Array.mapM_eq_mapM_toList,Sem.run_map]
 refine(congrArg (fun r=>(Result.andThen r fun a w'=>Result.ok (List.toArray a) w').andThen fun vs w'=>Sem.run P (pure (if h:vs.size=1 then vs[0]else .tuple vs)) w') (Eq.trans ?_ h)).trans ?_
 ·congr 1
 ·simp only[Result.andThen_ok,Sem.run_pure]
  match us with
  |[]=>rfl
  |[u]=>rfl
  |u::v::l=>simp
theorem BL(l:List Tmp)(h:l.length≠1)(s:Nat→AV):jV l s= .a7 (l.map s):=by
 rcases l with _|⟨a,_|⟨b,l⟩⟩
 ·rfl
 ·exact absurd rfl h
 ·rfl
theorem ag.cA{hint:Nat→Bool}{f:FuncId}{fn:Func}{body:Code}(hf:P.funcs[f]?=some fn)(hn:(fn.name== "runtime.NumGoroutine")=false)(hb:fn.body=some body)(rs:List ResultVar)(hr:fn.results.toList=rs)
  {args:List AV} {H:aa} {res:mv} {H':aa} (ha:args.length≤fn.ntmps) (h:cE P hint fn.ntmps H body (cV P rs H res H') (jM args) H):ag P f args H res H':=by
 intro φ N w vals hR hA
 refine .inl ⟨fH hf hn (by rw[hb];rfl) vals w,jq hf hb ha h hR hA ?_⟩
 intro ax s' H1 φ1 N1 tmps w' hI1 hq
 have fin:(∃avs s'',bH P H1 s' rs=some avs∧ak H (fun t=>avs.getD t .top) H1 s'' H'∧res= .ok (jV (List.range avs.length) s''))→∃v,(results fn tmps).run P w'= .ok v w'∧∃φ' N',Rel H' φ' N' w'∧au H φ N w H' φ' N' w'∧pS H' φ' N' w' res (.returned v):=by
  rintro⟨avs,s'',hav,hW,rfl⟩
  obtain⟨us,hus,hl,hru⟩:=rq hI1.rel hI1.tmps hav
  have hI2:Inv H φ N w us.length ⟨true,[]⟩ (fun t=>avs.getD t .top) H1 φ1 N1 {tmps:=us.toArray,defers:=[]} w':=by
   refine⟨hI1.rel,fun t=>?_,hI1.since,by simp,jk.refl⟩
   by_cases ht:t<avs.length
   ·have e1:avs.getD t .top=avs[t]:=by simp[List.getD,ht]
    have e2:(us.toArray:Array Value).getD t undef=us[t]'(by omega):=by
     rw[Array.getD_eq_getD_getElem?];simp[show t<us.length by omega]
    simp only[e1,e2]
    exact hru t ht (by omega)
   ·have e1:avs.getD t .top= .top:=by simp[List.getD,List.getElem?_eq_none (Nat.le_of_not_lt ht)]
    simp only[e1]
    exact .top _
  obtain⟨φ2,N2,hI3⟩:=hW.ok hR hI2
  refine⟨_,vA (by rw[hr];exact hus),φ2,N2,hI3.rel,hI3.since,?_⟩
  have at_:∀t,RA H' φ2 N2 w' (s'' t) ((us.toArray:Array Value).getD t undef):=hI3.tmps
  show RA H' φ2 N2 w' (jV (List.range avs.length) s'') _
  match us,hl with
  |[],hl=>
   have:avs=[]:=List.eq_nil_of_length_eq_zero hl
   subst this
   exact .a7 _ _ rfl fun i h1=>by simp at h1
  |[u],hl=>
   have:avs.length=1:=hl
   rw[this]
   exact at_ 0
  |u::v::l,hl=>
   have e:jV (List.range avs.length) s''= .a7 ((List.range avs.length).map s''):=by
    exact BL _ (by simp[hl]) s''
   rw[e]
   refine .a7 _ _ (by simp[hl]) fun i h1 h2=>?_
   have:=at_ i
   rw[Array.getD_eq_getD_getElem?]at this
   simp only[List.size_toArray]at h2
   rw[List.getElem?_toArray,List.getElem?_eq_getElem h2]at this
   simpa using this
 cases ax with
 |normal=>exact fin hq
 |ret=>exact fin hq
 |exit i=>exact hq.elim
 |panic v=>
  obtain⟨s'',hW,rfl⟩:=hq
  obtain⟨φ2,N2,hI2⟩:=hW.ok hR hI1
  exact⟨φ2,N2,hI2.rel,hI2.since,rfl⟩
theorem cV.ret{rs:List ResultVar}{H T:aa}{s:Nat→AV}{r:AV}(h:ob (bH P (H++T) s rs) fun avs=>r=jV (List.range avs.length) fun t=>pZ (H++T) H.length (avs.getD t .top)):cV P rs H (.ok r) H .ret s (H++T):=by
 cases e:bH P (H++T) s rs with
 |none=>rw[e]at h;exact h.elim
 |some avs=>
  rw[e]at h
  exact⟨avs,_,e,ak.drop H T _,by rw[show r=_ from h]⟩
end
end Go.Proofs.YtggohfhfocgilaaGreatAw
namespace Go.Proofs.YtggohfhfocgilaaGreat
open Go.Proofs.YtggohfhfocgilaaGreatAw Go.RowKit
def en(l:List Int):List Int:=l.mergeSort fun x y=>decide (x≤y)
theorem eP(l:List Int):(en l).length=l.length:=List.length_mergeSort _
theorem qH(l:List Int)(id ver:Nat)(H:aa)(ho:H[id]?=some (.arr 3 1 ver (ints l)))(hl:l.length≤1000000000):
  ag Tryz.prog 150 [.sl id ver 0 l.length] H (.ok (.a7 [])) (H.set id (.arr 3 1 ver (ints (en l)))):=by
 intro φ N w vals hR hA
 obtain⟨v,rfl⟩:∃v,vals=#[v]:=by
  have h1:=hA.1
  obtain⟨vs⟩:=vals
  match vs,h1 with
  |[v],_=>exact⟨v,rfl⟩
 have hv:=hA.2 0 (by simp) (by simp)
 simp only[List.getElem_cons_zero,List.getElem_toArray]at hv
 have hid:=aj ho
 refine .inl ⟨fH Tryz.func150 (by kernel_rfl) (by kernel_rfl) _ w,?_⟩
 cases hv with
 |sl _ _ _ _ A l' m o ho' hv' hp=>
 rw[ho]at ho';cases ho'
 obtain⟨rfl,h1,h2⟩:=hp rfl
 by_cases hl0:l=[]
 ·subst hl0
  have:=Any.slices_Sort_int_none (P:=Tryz.prog) zj A m w
  refine Calls.mono this ?_
  rintro e w' ⟨rfl,rfl⟩
  have hs:H.set id (.arr 3 1 ver (ints (en [])))=H:=by
   obtain⟨hl,hx⟩:=List.getElem?_eq_some_iff.1 ho
   rw[show en []=[]from by simp[en],←hx];exact List.set_getElem_self hl
  rw[hs]
  exact⟨φ,N,hR,.refl,.a7 [] _ rfl fun i h1=>by simp at h1⟩
 have hpos:=List.length_pos_iff.2 hl0
 have hobj:=hR.obj id _ ho
 cases hobj with
 |arr _ _ _ _ hk hes hbl=>
 rcases h2 with⟨_,h3,_⟩|⟨B,c,h3,h4,rfl,rfl⟩
 ·omega
 rcases hbl with⟨g0,_⟩|⟨B',cap,cur,g1,g2,g3,g4,g5,g6⟩
 ·rw[g0]at h3;cases h3
 obtain⟨e1,e2⟩:=Prod.mk.inj (Option.some.inj (g1.symm.trans h3))
 subst e1 e2
 have hel:(ints l).length=l.length:=by simp[ints]
 rw[hel]at g3
 have hBl:B'<w.heap.size:=by
  rcases Nat.lt_or_ge B' w.heap.size with h|h
  ·exact h
  ·simp[Array.getElem?_eq_none h]at g2
 have hcur:∀i (hi:i<l.length),cur[i]?=some (.int .i64 l[i]):=by
  intro i hi
  obtain⟨u,hu,hd⟩:=g6 i (by rw[hel];exact hi) 0 (by simp[ints])
  have hx:((ints l)[i]'(by rw[hel];exact hi))[0]'(by simp[ints])= .v (.int .i64 l[i]):=by simp[ints]
  rw[hx]at hd
  cases hd
  simpa using hu
 have hH:Go.Sort.Holds (Value.int .i64) w B' 0 l.toArray:=by
  intro j hj
  have hj':j<l.length:=by simpa using hj
  have hc:=hcur j hj'
  refine⟨?_,?_⟩
  ·simp[World.cell?,g2,hc,hj',getElem!_pos]
  ·simp[World.frozen?,g2]
 have hcall:=Any.slices_Sort_int (P:=Tryz.prog) zj B' 0 (cap-0) l w hH hBl (by omega)
 rw[Nat.zero_mul]
 refine Calls.mono hcall ?_
 rintro e w' ⟨rfl,n,os,rfl⟩
 have hsz:(l.mergeSort fun x y=>decide (x≤y)).toArray.size=l.length:=by simp
 have hother:∀k,k<w.heap.size→k≠B'→(Go.Sort.grow (Go.Sort.putRow (Value.int .i64) (Go.Sort.ahead w n) B' 0 (l.mergeSort fun x y=>decide (x≤y)).toArray) os).heap[k]?=w.heap[k]?:=by
  intro k hk hne
  rw[Go.Sort.heap_grow_old _ _ (by simpa using hk)]
  simp only[Go.Sort.putRow,Go.Sort.mapBlock,Go.Sort.ahead,Array.getElem?_modify]
  rw[if_neg (Ne.symm hne)]
 have hthis:(Go.Sort.grow (Go.Sort.putRow (Value.int .i64) (Go.Sort.ahead w n) B' 0 (l.mergeSort fun x y=>decide (x≤y)).toArray) os).heap[B']?=some (.cells (Go.Sort.putCells (Value.int .i64) 0 (l.mergeSort fun x y=>decide (x≤y)).toArray cur) 3 (0,0)):=by
  rw[Go.Sort.heap_grow_old _ _ (by simpa using hBl)]
  simp only[Go.Sort.putRow,Go.Sort.mapBlock,Go.Sort.ahead,Array.getElem?_modify,g2]
  rfl
 have hsize:w.heap.size≤(Go.Sort.grow (Go.Sort.putRow (Value.int .i64) (Go.Sort.ahead w n) B' 0 (l.mergeSort fun x y=>decide (x≤y)).toArray) os).heap.size:=by simp[Go.Sort.ahead]
 generalize hW:Go.Sort.grow (Go.Sort.putRow (Value.int .i64) (Go.Sort.ahead w n) B' 0 (l.mergeSort fun x y=>decide (x≤y)).toArray) os=W at*
 have hcells:∀i (hi:i<l.length),(Go.Sort.putCells (Value.int .i64) 0 (l.mergeSort fun x y=>decide (x≤y)).toArray cur)[i]?=some (.int .i64 ((en l)[i]'(by rw[eP];exact hi))):=by
  intro i hi
  have hc:=hcur i hi
  simp only[Go.Sort.putCells,Array.getElem?_mapIdx,hc,Option.map_some]
  rw[if_pos ⟨Nat.zero_le _,by rw[hsz];omega⟩,Nat.sub_zero,getElem!_pos _ i (by rw[hsz];exact hi)]
  rfl
 have hpsz:(Go.Sort.putCells (Value.int .i64) 0 (l.mergeSort fun x y=>decide (x≤y)).toArray cur).size=cur.size:=by simp[Go.Sort.putCells]
 generalize Go.Sort.putCells (Value.int .i64) 0 (l.mergeSort fun x y=>decide (x≤y)).toArray cur=cur' at*
 have hS:au H φ N w (H.set id (.arr 3 1 ver (ints (en l)))) φ N W:=by
  refine⟨by simp,by rw[←hW];rfl,by rw[←hW];rfl,by rw[←hW];rfl,hsize,fun k hk hn=>hother k hk fun h=>hn id cap hid (h▸h3),fun j B c hj hp _=>⟨j,c,by simpa using hj,hp⟩,fun _ h=>h,fun j o hj=>?_,fun a h=> .inl h⟩
  by_cases hji:j=id
  ·subst hji
   rw[ho]at hj;cases hj
   refine⟨.arr 3 1 ver (ints (en l)),by simp[hid],rfl,Nat.le_refl _,fun _=>⟨rfl,by simp[ay.len,ints,eP]⟩,fun kk es h=>by cases h⟩
  ·exact⟨o,by rw[List.getElem?_set_ne (Ne.symm hji)];exact hj,rfl,Nat.le_refl _,fun _=>⟨rfl,Nat.le_refl _⟩,fun kk es h=>⟨rfl,es,h⟩⟩
 refine⟨φ,N,⟨fun j o hj=>?_,fun i j B c c' hi hj hpi hpj=>hR.inj i j B c c' (by simpa using hi) (by simpa using hj) hpi hpj,fun a ha=>?_,fun a j B c ha hj hp=>hR.apart a j B c ha (by simpa using hj) hp⟩,hS,.a7 [] _ rfl fun i h1=>by simp at h1⟩
 ·by_cases hji:j=id
  ·subst hji
   simp[hid]at hj
   subst hj
   refine .arr _ _ _ _ hk (fun c hc=>by obtain⟨x,_,rfl⟩:=List.mem_map.1 hc;rfl) (.inr ⟨B',cap,cur',h3,hthis,by simp[ints,eP];omega,g4,by rw[hpsz];exact g5,fun i hi j hj=>?_⟩)
   have hi':i<l.length:=by simpa[ints,eP]using hi
   have hj0:j=0:=by
    have:((ints (en l))[i]).length=1:=by simp[ints]
    omega
   subst hj0
   refine⟨_,by rw[Nat.mul_one,Nat.add_zero];exact hcells i hi',?_⟩
   have hx:((ints (en l))[i])[0]= .v (.int .i64 ((en l)[i]'(by rw[eP];exact hi'))):=by simp[ints]
   rw[hx]
   exact .v _ rfl
  ·rw[List.getElem?_set_ne (Ne.symm hji)]at hj
   refine(hR.obj j o hj).cM hR hS rfl fun B c hp=>?_
   have hBne:B≠B':=fun h=>hji (hR.inj j id B c cap (aj hj) hid hp (h▸h3))
   have hob:=hR.obj j o hj
   have hlt:B<w.heap.size:=by
    have hs:∀{x},w.heap[B]?=some x→B<w.heap.size:=fun hx=>by
     rcases Nat.lt_or_ge B w.heap.size with h|h
     ·exact h
     ·simp[Array.getElem?_eq_none h]at hx
    cases hob with
    |arr e k ver es hk hes h=>
     rcases h with⟨h0,_⟩|⟨B',cap,cur,h1,h2,_⟩
     ·rw[hp]at h0;cases h0
     ·rw[hp]at h1;cases h1;exact hs h2
    |box e k ver n cs B' cap cur _ _ hp' hb'=>rw[hp]at hp';cases hp';exact hs hb'
    |mp kk es B' cap ents clock hp' hb'=>rw[hp]at hp';cases hp';exact hs hb'
    |dead ver hp'=>rw[hp]at hp';cases hp'
    |iter m since seen B' cap bm cm kk es hp' hb'=>rw[hp]at hp';cases hp';exact hs hb'
    |lp r s B' cap hp' hb'=>rw[hp]at hp';cases hp';exact hs hb'
   exact hother B hlt hBne
 ·obtain⟨v,hv⟩:=hR.live a ha
  exact⟨v,hS.cell hR a v ha hv⟩
end Go.Proofs.YtggohfhfocgilaaGreat
namespace Go.Proofs.YtggohfhfocgilaaGreat
namespace St
variable {α:Type} {eq:α→α→Bool}
def pQ(eq:α→α→Bool):α→List α→List α
 |_,[]=>[]
 |p,y::t=>if eq y p=true then pQ eq y t else y::pQ eq y t
def az(eq:α→α→Bool):List α→List α
 |[]=>[]
 |x::t=>x::pQ eq x t
theorem vu:∀(p:α) (t:List α) (x:α),pQ eq p (t++[x])=pQ eq p t++(if eq x ((p::t).getLast (by simp))=true then[]else[x])
 |p,[],x=>by cases h:eq x p<;>simp[pQ,h]
 |p,y::t,x=>by
  simp only[List.cons_append,pQ,vu y t x]
  have e:(p::y::t).getLast (by simp)=(y::t).getLast (by simp):=List.getLast_cons (by simp)
  rw[e]
  by_cases h:eq y p=true
  ·simp[h]
  ·simp[h]
theorem eQ{M:List α}{x y:α}{k:Nat}(hk:M.length=k+1)(hy:M[k]?=some y):az eq (M++[x])=az eq M++(if eq x y=true then[]else[x]):=by
 cases M with
 |nil=>simp at hk
 |cons p t=>
  simp only[List.cons_append,az,vu]
  have:(p::t).getLast (by simp)=y:=by
   rw[List.getLast_eq_getElem]
   have h:=List.getElem?_eq_some_iff.1 hy
   obtain⟨h1,h2⟩:=h
   simp only[List.length_cons]at hk
   simp only[List.length_cons,show t.length+1-1=k by omega]
   exact h2
  rw[this]
theorem rT(p:α)(t:List α):(pQ eq p t).length≤t.length:=by
 induction t generalizing p with
 |nil=>simp[pQ]
 |cons y t ih=>unfold pQ;split<;>simp;exact Nat.le_succ_of_le (ih y);exact ih y
theorem sG(l:List α):(az eq l).length≤l.length:=by
 cases l with
 |nil=>simp[az]
 |cons x t=>simpa[az]using rT x t
end St
end Go.Proofs.YtggohfhfocgilaaGreat
namespace Go.Proofs.YtggohfhfocgilaaGreat
open Go.Proofs.YtggohfhfocgilaaGreatAw Go.RowKit
namespace CI
def eI(x:Int):List D:=[.v (.int .i64 x)]
def jA(x y:Int):Bool:=decide (x=y)
def aH(H:aa)(id ver:Nat)(L:List Int):aa:=H.set id (.arr 3 1 ver (L.map eI))
theorem cx{H:aa}{id:Nat}(h:id<H.length)(ver:Nat)(L:List Int):(aH H id ver L)[id]?=some (.arr 3 1 ver (L.map eI)):=by simp[aH,h]
theorem eB(H:aa)(id ver:Nat)(L:List Int)(v:Nat)(es:List (List D)):(aH H id ver L).set id (.arr 3 1 v es)=H.set id (.arr 3 1 v es):=by simp[aH]
theorem dT(H:aa)(id ver:Nat)(L:List Int):H.set id (.arr 3 1 ver (L.map eI))=aH H id ver L:=rfl
theorem aG{L:List Int}{i:Nat}{x:Int}(h:L[i]?=some x):(L.map eI)[i]?=some (eI x):=by simp[h]
theorem cq(L:List Int)(i:Nat)(x:Int):(L.map eI).set i (eI x)=(L.set i x).map eI:=by simp[List.map_set]
theorem cy{α:Type}{A B:List α}{x y:α}{n:Nat}(h:A.length=n):(A++x::B).set n y=A++y::B:=by subst h;simp
def pW:List D:=[.v (.int .i64 0)]
def ia(H:aa)(id ver:Nat)(c:Int→Int→Bool)(L:List Int):aa:=H.set id (.arr 3 1 ver ((St.az c L).map eI++List.replicate (L.length-(St.az c L).length) pW))
theorem fU(H:aa)(id ver:Nat)(c:Int→Int→Bool)(L:List Int)(h:St.az c L=L):ia H id ver c L=aH H id ver L:=by
 unfold ia aH
 rw[h,Nat.sub_self,List.replicate_zero,List.append_nil]
theorem iL(H:aa)(id ver:Nat)(hid:id<H.length)(n:Nat)(hbig:n≤100000000000)(L:List Int)(hn:L.length=n):
  ag Tryz.prog 115 [.sl id ver 0 n] (aH H id ver L) (.ok (.sl id ver 0 (St.az jA L).length)) (ia H id ver jA L):=by
 have gh:=cx hid ver L
 generalize hE1:ia H id ver jA L=E1
 by_cases h2:n<2
 ·have hsame:St.az jA L=L:=by
   cases L with
   |nil=>rfl
   |cons x t=>
    cases t with
    |nil=>rfl
    |cons y t=>simp at hn;omega
  have he:aH H id ver L=E1:=by rw[←hE1,fU _ _ _ _ _ hsame]
  rw[hsame,hn]
  generalize aH H id ver L=E0 at*
  subst he
  refine ag.ai (hint:=(fun _=>false)) Tryz.func115 (by kernel_rfl) rfl [2] (by kernel_rfl) (by decide) (by simp[Tryz.ntmps115]) ?_
  rw[Tryz.ntmps115]
  simp -implicitDefEqProofs only[↓reduceIte,go_sem,Nat.reduceLT,reduceCtorEq,gh,show((n:Int)<2)=True from eq_true (by omega)]
  refine an.aI ?_
  simp -implicitDefEqProofs only[↓reduceIte,go_sem,Nat.reduceLT]
 generalize hE0:aH H id ver L=E0 at gh
 refine ag.ai (hint:=(fun _=>false)) Tryz.func115 (by kernel_rfl) rfl [2] (by kernel_rfl) (by decide) (by simp[Tryz.ntmps115]) ?_
 rw[Tryz.ntmps115]
 simp -implicitDefEqProofs only[↓reduceIte,go_sem,Nat.reduceLT,reduceCtorEq,gh,show((n:Int)<2)=False from eq_false (by omega)]
 refine aA (fun k s H'=>H'=E0∧St.az jA (L.take (k+1))=L.take (k+1)∧s 0= .sl id ver 0 n∧s 3=iA ((k:Int)+1)) (n-1) (by omega) (ak.refl _ _) ?_ ?_ ?_
 ·refine⟨rfl,?_,?_⟩
  ·cases L<;>rfl
  ·simp -implicitDefEqProofs only[↓reduceIte,go_sem,Nat.reduceLT,Int.reduceAdd,reduceCtorEq]
 ·rintro k s H' hk hw ⟨rfl,hp,t0,t5⟩
  obtain⟨q,hq⟩:∃q,q=k+1:=⟨_,rfl⟩
  obtain⟨x,hx⟩:∃x,L[q]?=some x:=⟨_,List.getElem?_eq_getElem (by omega)⟩
  obtain⟨y,hy⟩:∃y,L[k]?=some y:=⟨_,List.getElem?_eq_getElem (by omega)⟩
  have e1:L.take (q+1)=L.take q++[x]:=by rw[List.take_add_one,hx];rfl
  have hsn:St.az jA (L.take (q+1))=St.az jA (L.take q)++(if jA x y=true then[]else[x]):=by
   rw[e1]
   exact St.eQ (k:=k) (by rw[List.length_take];omega) (by rw[List.getElem?_take,if_pos (by omega)];exact hy)
  rw[←hq]at hp
  have f1:((k:Int)+1)=(q:Int):=by omega
  rw[f1]at t5
  have gx:=aG hx
  have gy:=aG hy
  have w1:IntKind.i64.wrap ((q:Int)-1)=(k:Int):=by rw[wrap64_in _ (by omega) (by omega)];omega
  have w2:IntKind.i64.wrap ((q:Int)+1)=(q:Int)+1:=wrap64_in _ (by omega) (by omega)
  have hqn:q<n:=by omega
  have hkn:k<n:=by omega
  simp only[eI]at gx gy
  simp -implicitDefEqProofs only[↓reduceIte,go_sem,Nat.reduceLT,Nat.reduceEqDiff,reduceCtorEq,t0,t5,gh,eq_true hqn]
  refine aF K.mixed (by kernel_rfl) ?_
  simp -implicitDefEqProofs only[↓reduceIte,go_sem,ab,Nat.reduceLT,Nat.reduceEqDiff,reduceCtorEq,t0,t5,gh,gx,gy,hqn,hkn,w1]
  by_cases hxy:x=y
  case neg=>
   have hcc:jA x y=false:=by simp[jA,hxy]
   rw[hcc]at hsn
   refine cO (by simp -implicitDefEqProofs only[go_sem,hxy]) ?_
   simp -implicitDefEqProofs only[↓reduceIte,go_sem,Nat.reduceLT,Nat.reduceEqDiff,t5,w2]
   refine cl.same ⟨rfl,?_,?_⟩
   ·rw[←hq,hsn,hp,e1];rfl
   ·simp -implicitDefEqProofs only[↓reduceIte,go_sem,Nat.reduceLT,reduceCtorEq,t0,show((k:Int)+1)=(q:Int) by omega]
  case pos=>
   have hcc:jA x y=true:=by simp[jA,hxy]
   rw[hcc]at hsn
   refine cT (by simp -implicitDefEqProofs only[go_sem,hxy]) ?_
   have hsn2:St.az jA (L.take (q+1))=L.take q:=by rw[hsn,hp];simp
   simp -implicitDefEqProofs only[↓reduceIte,go_sem,Nat.reduceLT,Nat.reduceEqDiff,reduceCtorEq,t0,t5,gh]
   refine⟨by omega,.inr (by omega),?_⟩
   have hnq:((n:Int).toNat-q)=n-q:=by omega
   refine aA (fun k2 s H'=>(∃C K1,H'=aH H id ver C∧C=K1++L.drop K1.length∧K1=St.az jA (L.take (q+k2+1))∧K1.length≤q+k2∧s 3=iA K1.length)∧s 0= .sl id ver 0 n∧s 4= .sl id ver q (n-q)∧s 5=iA ((k2:Int)+1)) (n-q-1) (by omega) (ak.refl _ _) ?_ ?_ ?_
   ·refine⟨⟨L,L.take q,hE0.symm,?_,?_,?_,?_⟩,?_⟩
    ·rw[List.length_take,Nat.min_eq_left (by omega),List.take_append_drop]
    ·rw[Nat.add_zero];exact hsn2.symm
    ·rw[List.length_take];omega
    ·rw[List.length_take,Nat.min_eq_left (by omega)];simp -implicitDefEqProofs only[↓reduceIte,go_sem,Nat.reduceEqDiff,t5]
    ·simp -implicitDefEqProofs only[↓reduceIte,go_sem,Nat.reduceLT,Nat.reduceEqDiff,Int.reduceAdd,reduceCtorEq,t0]
   ·rintro k2 s H' hk2 hw3 ⟨⟨C,K1,rfl,hC,hK1,hKl,t5⟩,t0,t6,t7⟩
    obtain⟨u,hu⟩:∃u,u=k2+1:=⟨_,rfl⟩
    obtain⟨v,hv⟩:∃v,v=q+u:=⟨_,rfl⟩
    obtain⟨x2,hx2⟩:∃x,L[v]?=some x:=⟨_,List.getElem?_eq_getElem (by omega)⟩
    obtain⟨y2,hy2⟩:∃y,L[v-1]?=some y:=⟨_,List.getElem?_eq_getElem (by omega)⟩
    have hCg:∀i,K1.length≤i→C[i]?=L[i]?:=fun i hi=>by
     rw[hC,List.getElem?_append_right hi,List.getElem?_drop,Nat.add_sub_cancel' hi]
    have hCl:C.length=n:=by rw[hC,List.length_append,List.length_drop];omega
    have e2:L.take (v+1)=L.take v++[x2]:=by rw[List.take_add_one,hx2];rfl
    have hsn3:St.az jA (L.take (v+1))=K1++(if jA x2 y2=true then[]else[x2]):=by
     rw[e2,hK1,show q+k2+1=v by omega]
     exact St.eQ (k:=v-1) (by rw[List.length_take];omega) (by rw[List.getElem?_take,if_pos (by omega)];exact hy2)
    have gx2:=aG ((hCg v (by omega)).trans hx2)
    have gy2:=aG ((hCg (v-1) (by omega)).trans hy2)
    have gC:=cx hid ver C
    have f2:((k2:Int)+1)=(u:Int):=by omega
    rw[f2]at t7
    have w3:IntKind.i64.wrap ((u:Int)-1)=(k2:Int):=by rw[wrap64_in _ (by omega) (by omega)];omega
    have w4:IntKind.i64.wrap ((u:Int)+1)=(u:Int)+1:=wrap64_in _ (by omega) (by omega)
    have f3:q+u=v:=hv.symm
    have f4:q+k2=v-1:=by omega
    have hun:u<n-q:=by omega
    have hkn2:k2<n-q:=by omega
    simp only[eI]at gx2 gy2
    simp -implicitDefEqProofs only[↓reduceIte,go_sem,Nat.reduceLT,Nat.reduceEqDiff,t6,t7,gC,eq_true hun]
    refine aF K.mixed (by kernel_rfl) ?_
    simp -implicitDefEqProofs only[↓reduceIte,go_sem,ab,Nat.reduceLT,Nat.reduceEqDiff,t6,t7,gC,w3,hun,hkn2,f3,f4,gx2,gy2]
    by_cases hxy2:x2=y2
    case pos=>
     have hc2:jA x2 y2=true:=by simp[jA,hxy2]
     rw[hc2]at hsn3
     refine cO (by simp -implicitDefEqProofs only[go_sem,hxy2]) ?_
     simp -implicitDefEqProofs only[↓reduceIte,go_sem,Nat.reduceLT,Nat.reduceEqDiff,t7,w4]
     refine cl.same ⟨⟨C,K1,rfl,hC,?_,by omega,?_⟩,?_⟩
     ·rw[show q+(k2+1)+1=v+1 by omega,hsn3];simp
     ·simp -implicitDefEqProofs only[↓reduceIte,go_sem,Nat.reduceEqDiff,t5]
     ·simp -implicitDefEqProofs only[↓reduceIte,go_sem,Nat.reduceLT,Nat.reduceEqDiff,reduceCtorEq,t0,t6,show((k2:Int)+1)=(u:Int) by omega]
    case neg=>
     have hc2:jA x2 y2=false:=by simp[jA,hxy2]
     rw[hc2]at hsn3
     refine cT (by simp -implicitDefEqProofs only[go_sem,hxy2]) ?_
     obtain⟨r,hr⟩:∃r,r=K1.length:=⟨_,rfl⟩
     rw[←hr]at t5
     have hrn:r<n:=by omega
     have w5:IntKind.i64.wrap ((r:Int)+1)=((r+1:Nat):Int):=by rw[wrap64_in _ (by omega) (by omega)];omega
     obtain⟨r2,hr2⟩:∃r2,r2=r+1:=⟨_,rfl⟩
     rw[←hr2]at w5
     have s1:=cq C r x2
     obtain⟨z0,hz0⟩:∃z,C[r]?=some z:=⟨_,List.getElem?_eq_getElem (by omega)⟩
     have gz:=aG hz0
     simp only[eI]at s1 gz
     simp -implicitDefEqProofs only[↓reduceIte,go_sem,ab,aq,Nat.reduceLT,Nat.reduceEqDiff,reduceCtorEq,t0,t5,t6,t7,gC,hun,hrn,f3,gx2,gz,s1,eB,w4,w5]
     refine cl.same ⟨⟨C.set r x2,K1++[x2],by rw[←dT],?_,?_,?_,?_⟩,?_⟩
     ·have e3:L.drop r=L[r]'(by omega)::L.drop (r+1):=List.drop_eq_getElem_cons (by omega)
      rw[hC,←hr,e3,cy hr.symm];simp[hr]
     ·rw[show q+(k2+1)+1=v+1 by omega,hsn3];simp
     ·rw[List.length_append,List.length_singleton];omega
     ·simp -implicitDefEqProofs only[↓reduceIte,go_sem,Nat.reduceLT,Nat.reduceEqDiff,List.length_append,show((K1.length:Int)+1)=(r2:Int) by omega]
     ·simp -implicitDefEqProofs only[↓reduceIte,go_sem,Nat.reduceLT,Nat.reduceEqDiff,reduceCtorEq,t0,t6,show((k2:Int)+1)=(u:Int) by omega]
   ·rintro s H' ⟨⟨C,K1,rfl,hC,hK1,hKl,t5⟩,t0,t6,t7⟩
    have hK2:St.az jA L=K1:=by rw[hK1,List.take_of_length_le (by omega)]
    have hCl:C.length=n:=by rw[hC,List.length_append,List.length_drop];omega
    have gC:=cx hid ver C
    have hlt:((((n-q-1:Nat):Int)+1)<((n-q:Nat):Int))=False:=eq_false (by omega)
    obtain⟨r,hr⟩:∃r,r=K1.length:=⟨_,rfl⟩
    rw[←hr]at t5
    have hrn:((n:Int).toNat-r)=n-r:=by omega
    have hCt:C.take r=K1:=by rw[hC,hr,List.take_left]
    have hsr:bQ (C.map eI) r (fh (.int .i64 0) (n-r))=(St.az jA L).map eI++List.replicate (L.length-(St.az jA L).length) pW:=by
     unfold bQ
     rw[←List.map_take,hCt,List.drop_of_length_le (by simp[fh];omega),List.append_nil,hK2,hn,←hr]
     rfl
    have hfo:H.set id (.arr 3 1 ver ((St.az jA L).map eI++List.replicate (L.length-(St.az jA L).length) pW))=E1:=hE1
    have gE:E1[id]?=some (.arr 3 1 ver ((St.az jA L).map eI++List.replicate (L.length-(St.az jA L).length) pW)):=by rw[←hfo];simp[hid]
    simp -implicitDefEqProofs only[↓reduceIte,go_sem,Nat.reduceLT,Nat.reduceEqDiff,reduceCtorEq,t0,t5,t6,t7,gC,hlt]
    refine⟨by omega,.inr (by omega),?_⟩
    rw[hsr,eB,hfo]
    simp -implicitDefEqProofs only[↓reduceIte,go_sem,Nat.reduceLT,Int.reduceLE,Int.reduceToNat,gE]
    refine⟨by omega,.inl trivial,_,ak.refl _ _,?_⟩
    simp -implicitDefEqProofs only[↓reduceIte,go_sem,Nat.reduceLT,hK2,←hr,Nat.sub_zero]
 ·rintro s H' ⟨rfl,hp,t0,t5⟩
  have hsame:St.az jA L=L:=by rwa[show n-1+1=n by omega,←hn,List.take_length]at hp
  have he:H'=E1:=by rw[←hE1,fU _ _ _ _ _ hsame,hE0]
  simp -implicitDefEqProofs only[↓reduceIte,go_sem,Nat.reduceLT,Nat.reduceEqDiff,reduceCtorEq,t0,t5,gh,show(((n-1:Nat):Int)+1<(n:Int))=False from eq_false (by omega)]
  rw[←he,hsame,hn]
  refine an.aI ?_
  simp -implicitDefEqProofs only[↓reduceIte,go_sem,Nat.reduceLT]
end CI
end Go.Proofs.YtggohfhfocgilaaGreat
namespace Go.Proofs.YtggohfhfocgilaaGreatAw
open Go.RowKit
theorem ag.freeze{P:Program}{f:FuncId}(pre:List AV){post:List AV}{id k ver off len:Nat}{e:TypeId}{es:List (List D)}{H H':aa}{res:mv}(ho:H[id]?=some (.arr e k ver es))
  (h:ag P f (pre++ .d (.list false ((es.drop off).take len))::post) (H.set id (.arr e k (ver+1) [])) res H'):ag P f (pre++ .sl id ver off len::post) H res H':=by
 intro φ N w vals hR hA
 obtain⟨φ1,N1,hR1,hS1,hv⟩:=hR.freeze ho
 have hA1:p8 (H.set id (.arr e k (ver+1) [])) φ1 N1 w (pre++ .d (.list false ((es.drop off).take len))::post) vals:=by
  refine⟨by rw[←hA.1];simp,fun i h1 h2=>?_⟩
  have h3:=hA.2 i (by simpa using h1) h2
  by_cases hi:i=pre.length
  ·subst hi
   simp only[List.getElem_append_right (Nat.le_refl _),Nat.sub_self,List.getElem_cons_zero]at h3⊢
   exact hv off len _ h3
  ·rcases Nat.lt_or_ge i pre.length with hlt|hge
   ·rw[List.getElem_append_left hlt]at h3⊢
    exact h3.since hR hS1
   ·rw[List.getElem_append_right hge]at h3⊢
    obtain⟨j,hj⟩:∃j,i-pre.length=j+1:=⟨i-pre.length-1,by omega⟩
    simp only[hj,List.getElem_cons_succ]at h3⊢
    exact h3.since hR hS1
 have h4:=h φ1 N1 w vals hR1 hA1
 have go:∀e' w',(∃φ' N',Rel H' φ' N' w'∧au (H.set id (.arr e k (ver+1) [])) φ1 N1 w H' φ' N' w'∧pS H' φ' N' w' res e')→∃φ' N',Rel H' φ' N' w'∧au H φ N w H' φ' N' w'∧pS H' φ' N' w' res e':=by
  rintro e' w' ⟨φ',N',hR',hS',hE⟩
  exact⟨φ',N',hR',hS1.trans hS',hE⟩
 rcases h4 with⟨h5,h6⟩|⟨v,w',h5,h6⟩
 ·exact .inl ⟨h5,h6.mono go⟩
 ·exact .inr ⟨v,w',h5,go _ _ h6⟩
theorem ae.pZ{P:Program}{f:FuncId}(pre:List AV){post:List AV}{id k ver off len:Nat}{e:TypeId}{es:List (List D)}{H H':aa}{K:AV→aa→Prop}{KP:Value→aa→Prop}{r:AV}(ho:H[id]?=some (.arr e k ver es))
  (h:ag P f (pre++ .d (.list false ((es.drop off).take len))::post) (H.set id (.arr e k (ver+1) [])) (.ok r) H') (hk:K r H'):ae P f (pre++ .sl id ver off len::post) H K KP:=ae.ok (ag.freeze pre ho h) hk
end Go.Proofs.YtggohfhfocgilaaGreatAw
namespace Go.Proofs.YtggohfhfocgilaaGreat
open Go.Proofs.YtggohfhfocgilaaGreatAw Go.RowKit
theorem mA(l:List Int):(∀c∈ints l,c.length=1)=True:=eq_true fun c hc=>by obtain⟨x,_,rfl⟩:=List.mem_map.1 hc;rfl
def upto(n:Nat):List Int:=(List.range n).map fun(i:Nat)=>(i:Int)
theorem eD(n:Nat):(upto n).length=n:=by simp[upto]
theorem iv(n:Nat):upto (n+1)=upto n++[(n:Int)]:=by simp[upto,List.range_succ]
theorem nH(n:Nat)(hn:n≤1000000000000)(H:aa):ag Tryz.prog 106 [iA n] H (.ok (.d (.list false (ints (upto n))))) H:=by
 refine ag.ai (hint:=(fun _=>false)) Tryz.func106 (by kernel_rfl) rfl [2] (by kernel_rfl) (by decide) (by simp[Tryz.ntmps106]) ?_
 rw[Tryz.ntmps106]
 simp -implicitDefEqProofs only[↓reduceIte,go_sem,reduceCtorEq]
 refine aU (fun k s H'=>∃ver,H'=H++[.arr 3 1 ver (ints (upto k))]∧s 3= .sl H.length ver 0 k∧s 5=iA n∧s 6=iA k) n (by omega) (ak.eg _ _ 3 3 1 (by decide) (by simp -implicitDefEqProofs only[↓reduceIte,go_sem,Nat.reduceLT,Nat.reduceEqDiff]) _) ?_ ?_ ?_
 ·refine⟨0,?_⟩
  simp -implicitDefEqProofs only[↓reduceIte,go_sem,Nat.reduceLT,Nat.reduceEqDiff,show upto 0=[]from rfl,jQ]
 ·rintro k s H' hk hw ⟨ver,rfl,t3,t5,t6⟩
  simp -implicitDefEqProofs only[↓reduceIte,go_sem,Nat.reduceLT,Nat.reduceLeDiff,Nat.reduceEqDiff,t3,t5,t6,hk,ao,eD,c8]
  refine⟨by omega,by omega,cl.same ⟨ver+1,?_⟩⟩
  simp -implicitDefEqProofs only[↓reduceIte,go_sem,Nat.reduceLT,Nat.reduceEqDiff,t5,hw,iv]
 ·rintro s H' ⟨ver,rfl,t3,t5,t6⟩
  simp -implicitDefEqProofs only[↓reduceIte,go_sem,Nat.reduceLT,Nat.reduceEqDiff,t3,t5,t6]
  refine an.ret ?_
  simp -implicitDefEqProofs only[↓reduceIte,go_sem,Nat.reduceLT,b8,ao,eD]
theorem gY(n:Nat)(hn:n≤1000000000000)(H:aa):ag Tryz.prog 62 [iA n] H (.ok (.d (.list false (ints (upto n))))) H:=by
 refine ag.ai (hint:=(fun _=>false)) Tryz.func62 (by kernel_rfl) rfl [2] (by kernel_rfl) (by decide) (by simp[Tryz.ntmps62]) ?_
 rw[Tryz.ntmps62]
 simp -implicitDefEqProofs only[go_sem]
 refine aA (fun k s H'=>∃ver,H'=H++[.arr 3 1 ver (ints (upto k))]∧s 3= .sl H.length ver 0 k∧s 0=iA n∧s 4=iA k) n (by omega) (ak.eg _ _ 3 3 1 (by decide) (by simp -implicitDefEqProofs only[↓reduceIte,go_sem,Nat.reduceLT,Nat.reduceEqDiff]) _) ?_ ?_ ?_
 ·refine⟨0,?_⟩
  simp -implicitDefEqProofs only[↓reduceIte,go_sem,Nat.reduceLT,Nat.reduceEqDiff,reduceCtorEq,show upto 0=[]from rfl,jQ]
 ·rintro k s H' hk hw ⟨ver,rfl,t3,t0,t4⟩
  simp -implicitDefEqProofs only[↓reduceIte,go_sem,Nat.reduceLT,Nat.reduceLeDiff,Nat.reduceEqDiff,reduceCtorEq,t3,t0,t4,hk,ao,eD,c8]
  refine⟨by omega,by omega,cl.same ⟨ver+1,?_⟩⟩
  simp -implicitDefEqProofs only[↓reduceIte,go_sem,Nat.reduceLT,Nat.reduceEqDiff,reduceCtorEq,t0,hw,iv]
 ·rintro s H' ⟨ver,rfl,t3,t0,t4⟩
  simp -implicitDefEqProofs only[↓reduceIte,go_sem,Nat.reduceLT,Nat.reduceEqDiff,reduceCtorEq,t3,t0,t4]
  refine an.ret ?_
  simp -implicitDefEqProofs only[↓reduceIte,go_sem,Nat.reduceLT,b8,ao,eD]
theorem ub(l m:List Int)(n1 n2:Bool)(H:aa)(hl:l.length≤9223372036854775807):
  ag Tryz.prog 15 [.d (.list n1 (ints l)),.d (.list n2 (ints m))] H (.ok (bA (decide (l=m)))) H:=by
 refine ag.ai (hint:=(fun _=>false)) Tryz.func15 (by kernel_rfl) rfl [4] (by kernel_rfl) (by decide) (by simp[Tryz.ntmps15]) ?_
 rw[Tryz.ntmps15]
 simp -implicitDefEqProofs only[↓reduceIte,go_sem,Nat.reduceLT,Nat.reduceEqDiff,reduceCtorEq,ao]
 by_cases hlm:l.length=m.length
 ·refine cO (by simp -implicitDefEqProofs only[go_sem,hlm]) ?_
  simp -implicitDefEqProofs only[go_sem]
  refine aA (fun k s H'=>H'=H∧l.take k=m.take k∧s 0= .d (.list n1 (ints l))∧s 1= .d (.list n2 (ints m))∧s 5=iA k) l.length hl (ak.refl _ _) ?_ ?_ ?_
  ·simp -implicitDefEqProofs only[↓reduceIte,go_sem,Nat.reduceLT,Nat.reduceEqDiff,reduceCtorEq,List.take_zero]
  ·rintro k s H' hk hw ⟨rfl,hp,h0,h1,h5⟩
   have hx:=bD l k hk
   have hy:=bD m k (by omega)
   have e1:=List.take_succ_eq_append_getElem hk
   have e2:=List.take_succ_eq_append_getElem (show k<m.length by omega)
   have e3:∀(g:l=m),l[k]=m[k]'(by omega):=by intro g;subst g;rfl
   generalize l[k]=x at hx e1 e3
   generalize m[k]'(by omega)=y at hy e2 e3
   simp -implicitDefEqProofs only[↓reduceIte,go_sem,Nat.reduceLT,Nat.reduceEqDiff,reduceCtorEq,h0,h5,hk,ao]
   refine aF K.mixed (by kernel_rfl) ?_
   simp -implicitDefEqProofs only[↓reduceIte,go_sem,Nat.reduceLT,Nat.reduceEqDiff,reduceCtorEq,h0,h1,h5,hx,hy]
   by_cases hxy:x=y
   ·refine cO (by simp -implicitDefEqProofs only[go_sem,hxy]) ?_
    simp -implicitDefEqProofs only[↓reduceIte,go_sem,Nat.reduceLT,Nat.reduceEqDiff,h5]
    refine cl.same ⟨rfl,by rw[e1,e2,hp,hxy],?_⟩
    simp -implicitDefEqProofs only[↓reduceIte,go_sem,Nat.reduceLT,Nat.reduceEqDiff,reduceCtorEq,h0,h1,hw]
   ·refine cT (by simp -implicitDefEqProofs only[go_sem,hxy]) ?_
    simp -implicitDefEqProofs only[go_sem]
    refine an.aI ?_
    simp -implicitDefEqProofs only[↓reduceIte,go_sem,Nat.reduceLT,show ¬l=m from fun g=>hxy (e3 g)]
  ·rintro s H' ⟨rfl,hp,h0,h1,h5⟩
   simp -implicitDefEqProofs only[↓reduceIte,go_sem,Nat.reduceLT,Nat.reduceEqDiff,reduceCtorEq,h0,h5,ao]
   refine an.aI ?_
   rw[List.take_length,hlm,List.take_length]at hp
   simp -implicitDefEqProofs only[↓reduceIte,go_sem,Nat.reduceLT,hp]
 ·simp -implicitDefEqProofs only[go_sem,show((l.length:Int)=(m.length:Int))=False from eq_false (by omega)]
  refine an.aI ?_
  simp -implicitDefEqProofs only[↓reduceIte,go_sem,Nat.reduceLT,show ¬l=m from fun g=>hlm (by rw[g])]
def cS(x:Int)(l:List Int):Int:=if x∈l then(l.idxOf x:Nat)else -1
theorem tW(x:Int)(l:List Int):(0≤cS x l)=(x∈l):=by unfold cS;split<;>simp[*]
theorem pa{l:List Int}{k:Nat}(hk:k<l.length)(h:∀i (hi:i<k) (hl:i<l.length),¬l[i]=l[k]):cS l[k] l=k:=by
 unfold cS
 rw[if_pos (List.getElem_mem hk)]
 congr 1
 rw[List.idxOf,List.findIdx_eq hk]
 exact⟨by simp,fun j hj=>by simpa using h j hj (by omega)⟩
theorem m4{x:Int}{l:List Int}(h:∀i (hl:i<l.length),¬l[i]=x):cS x l=-1:=by
 unfold cS
 rw[if_neg]
 intro hx
 obtain⟨i,hi,e⟩:=List.mem_iff_getElem.1 hx
 exact h i hi e
theorem kh(l:List Int)(x:Int)(n1:Bool)(H:aa)(hl:l.length≤9223372036854775807):
  ag Tryz.prog 98 [.d (.list n1 (ints l)),iA x] H (.ok (iA (cS x l))) H:=by
 refine ag.ai (hint:=(fun _=>false)) Tryz.func98 (by kernel_rfl) rfl [4] (by kernel_rfl) (by decide) (by simp[Tryz.ntmps98]) ?_
 rw[Tryz.ntmps98]
 simp -implicitDefEqProofs only[↓reduceIte,go_sem,Nat.reduceLT,Int.reduceNeg,reduceCtorEq,ao]
 refine aU (fun k s H'=>H'=H∧(∀i (hi:i<k) (hl:i<l.length),¬l[i]=x)∧s 0= .d (.list n1 (ints l))∧s 1=iA x∧s 7=iA l.length∧s 8=iA k) l.length hl (ak.refl _ _) ?_ ?_ ?_
 ·refine⟨rfl,fun i hi=>by omega,?_⟩
  simp -implicitDefEqProofs only[↓reduceIte,go_sem,Nat.reduceLT,Nat.reduceEqDiff,reduceCtorEq]
 ·rintro k s H' hk hw ⟨rfl,hp,h0,h1,h7,h8⟩
  have hx:=bD l k hk
  have hit:x=l[k]→cS x l=k:=fun e=>by rw[e];exact pa hk fun i hi hl'=>by rw[←e];exact hp i hi hl'
  have hpp:¬x=l[k]→∀i (hi:i<k+1) (hl:i<l.length),¬l[i]=x:=fun h0 i hi hl'=>by
   rcases Nat.lt_or_ge i k with h|h
   ·exact hp i h hl'
   ·obtain rfl:i=k:=by omega
    exact fun e=>h0 e.symm
  generalize l[k]=y at hx hit hpp
  simp -implicitDefEqProofs only[↓reduceIte,go_sem,Nat.reduceLT,Nat.reduceEqDiff,reduceCtorEq,h0,h1,h7,h8,hk,hx]
  by_cases hxy:x=y
  ·refine cT (by simp -implicitDefEqProofs only[go_sem,hxy]) ?_
   simp -implicitDefEqProofs only[↓reduceIte,go_sem,Nat.reduceLT,Nat.reduceEqDiff]
   refine an.aI ?_
   simp -implicitDefEqProofs only[↓reduceIte,go_sem,Nat.reduceLT,hit hxy]
  ·refine cO (by simp -implicitDefEqProofs only[go_sem,hxy]) ?_
   simp -implicitDefEqProofs only[↓reduceIte,go_sem,Nat.reduceLT,Nat.reduceEqDiff,h8]
   refine cl.same ⟨rfl,hpp hxy,?_⟩
   simp -implicitDefEqProofs only[↓reduceIte,go_sem,Nat.reduceLT,Nat.reduceEqDiff,reduceCtorEq,h0,h1,h7,hw]
 ·rintro s H' ⟨rfl,hp,h0,h1,h7,h8⟩
  simp -implicitDefEqProofs only[↓reduceIte,go_sem,Nat.reduceLT,Int.reduceNeg,h7,h8]
  refine an.aI ?_
  simp -implicitDefEqProofs only[↓reduceIte,go_sem,Nat.reduceLT,Int.reduceNeg,m4 fun i hi=>hp i hi hi]
theorem ez(l:List Int)(x:Int)(n1:Bool)(H:aa)(hl:l.length≤9223372036854775807):
  ag Tryz.prog 64 [.d (.list n1 (ints l)),iA x] H (.ok (bA (decide (x∈l)))) H:=by
 refine ag.ai (hint:=(fun _=>false)) Tryz.func64 (by kernel_rfl) rfl [4] (by kernel_rfl) (by decide) (by simp[Tryz.ntmps64]) ?_
 rw[Tryz.ntmps64]
 simp -implicitDefEqProofs only[↓reduceIte,go_sem,Nat.reduceLT,Nat.reduceEqDiff,reduceCtorEq]
 refine ae.ok (kh l x n1 H hl) ?_
 simp -implicitDefEqProofs only[↓reduceIte,go_sem,Nat.reduceLT,tW]
 refine an.aI ?_
 simp -implicitDefEqProofs only[↓reduceIte,go_sem,Nat.reduceLT]
theorem Em{P:Program}(d:Nat)(t e:TypeId)(h:P.underlying t=some (.slice e))(w:World):(Op.equalIn (d+1) t (.slice none 0 0) (.slice none 0 0)).run P w= .ok true w:=by simp[Op.equalIn,run_underlying h]
theorem Ap{P:Program}{t e:TypeId}(hu:P.underlying t=some (.slice e)):bN P .eql t (.slice none 0 0) (.slice none 0 0) (.bool true):=fun x y w=>by
 have hg:(eqGuard .eql t x y (.slice none 0 0) (.slice none 0 0)).run P w= .ok () w:=by simp[eqGuard]
 have he:(Op.equal t (.slice none 0 0) (.slice none 0 0)).run P w= .ok true w:=Em 9999 t e hu w
 rw[Sem.run_bind,hg]
 simp only[Result.andThen_ok,Go.binOp]
 simp[he]
theorem AK(K:Value→Prop):cw Tryz.prog .eql 23 (.slice none 0 0) (.slice none 0 0) K=K (.bool true):=by
 have h:bN Tryz.prog .eql 23 (.slice none 0 0) (.slice none 0 0) (.bool true):=Ap (e:=3) (by kernel_rfl)
 have:cw Tryz.prog .eql 23 (.slice none 0 0) (.slice none 0 0) K=∃r,bN Tryz.prog .eql 23 (.slice none 0 0) (.slice none 0 0) r∧K r:=by unfold cw;rfl
 rw[this]
 exact propext ⟨fun⟨r',h',k⟩=>by rw[h.inj h'];exact k,fun k=>⟨_,h,k⟩⟩
theorem c4(H:aa):ag Tryz.prog 73 [.d (.v (.slice none 0 0))] H (.ok (.d (.v (.slice none 0 0)))) H:=by
 refine ag.ai (hint:=(fun _=>false)) Tryz.func73 (by kernel_rfl) rfl [2] (by kernel_rfl) (by decide) (by simp[Tryz.ntmps73]) ?_
 rw[Tryz.ntmps73]
 simp -implicitDefEqProofs only[↓reduceIte,go_sem,Nat.reduceLT,reduceCtorEq,AK]
 refine an.aI ?_
 simp -implicitDefEqProofs only[↓reduceIte,go_sem,Nat.reduceLT]
theorem mj{l:List Int}(h:0<l.length):(ints l).isEmpty=false:=by cases l with|nil=>simp at h|cons=>rfl
theorem dX(l:List Int)(n1:Bool)(H:aa)(h0:0<l.length)(hl:l.length≤1000000000000):ag Tryz.prog 73 [.d (.list n1 (ints l))] H (.ok (.d (.list false (ints l)))) H:=by
 have e1:=mj h0
 refine ag.ai (hint:=(fun _=>false)) Tryz.func73 (by kernel_rfl) rfl [2] (by kernel_rfl) (by decide) (by simp[Tryz.ntmps73]) ?_
 rw[Tryz.ntmps73]
 simp -implicitDefEqProofs only[↓reduceIte,go_sem,Nat.reduceLT,Nat.reduceEqDiff,reduceCtorEq,e1,mA,ao]
 refine⟨by omega,by omega,an.ret ?_⟩
 simp -implicitDefEqProofs only[↓reduceIte,go_sem,Nat.reduceLT,b8,ao]
end Go.Proofs.YtggohfhfocgilaaGreat
namespace Go.Proofs.YtggohfhfocgilaaGreatAw
open Go.RowKit
def Ext(B H:aa):Prop:=∀(id:Nat) (o:ay),B[id]?=some o→o.live=true→H[id]?=some o
theorem Ext.refl(B:aa):Ext B B:=fun _ _ h _=>h
theorem Ext.app(B T:aa):Ext B (B++T):=fun id o h _=>by rw[List.getElem?_append_left (aj h)];exact h
def C6:aa→aa→Prop
 |[],_=>True
 |o::os,o'::os'=>(o.live=true→o'=o)∧C6 os os'
 |_::_,[]=>False
theorem C6.get:∀{B T:aa},C6 B T→∀(i:Nat) (o:ay),B[i]?=some o→o.live=true→T[i]?=some o
 |[],_,_,i,o,h,_=>by simp at h
 |b::B,[],h,i,o,_,_=>h.elim
 |b::B,t::T,h,0,o,ho,hl=>by
  simp only[List.getElem?_cons_zero,Option.some.injEq]at ho⊢
  subst ho
  exact h.1 hl
 |b::B,t::T,h,i+1,o,ho,hl=>by
  rw[List.getElem?_cons_succ]at ho⊢
  exact C6.get h.2 i o ho hl
theorem Ext.dC(H:aa){B T:aa}(h:C6 B T):Ext (H++B) (H++T):=fun i o ho hl=>by
 rcases Nat.lt_or_ge i H.length with hi|hi
 ·rw[List.getElem?_append_left hi]at ho⊢;exact ho
 ·rw[List.getElem?_append_right hi]at ho⊢;exact h.get _ o ho hl
def Ff(hint:Bool):Op→Bool
 | .move _| .assign _| .pick .. | .build .. | .field .. | .index .. | .unOp .. | .convert .. | .extract .. | .sliceToArrayPointer .. | .makeInterface .. =>true
 | .makeFunc (.func _) _ _=>true
 | .buildSlice .. => !hint
 | .binOp op _ _ _ _=>(match op with| .eql| .neq=>false|_=>true)
 |_=>false
theorem Dj{P:Program}{s:Nat→AV}{H H2:aa}{hint:Bool}{op:Op}{K:AV→aa→Prop}(h:Ff hint op=true):gJ P s H hint op K=gJ P s H2 hint op fun r _=>K r H:=by
 by_cases hb:∃o t x y t',op= .binOp o t x y t'
 ·obtain⟨o,t,x,y,t',rfl⟩:=hb
  cases o<;>first|(unfold gJ;simp only[lg,Bool.false_and,Bool.false_eq_true,false_and];done)|(cases h;done)
 cases op<;>first|rfl|cases h|(exact absurd ⟨_,_,_,_,_,rfl⟩ hb)|skip
 ·cases hint
  ·unfold gJ
   rfl
  ·cases h
 ·rename_i f _ _
  cases f<;>first|rfl|cases h
theorem zQ{B H:aa}(hE:Ext B H){id ver i j n:Nat}{cs:List AV}(h:ab B id ver i j n=some cs):ab H id ver i j n=some cs:=by
 unfold ab at h⊢
 cases hb:B[id]? with
 |none=>rw[hb]at h;cases h
 |some o=>
  rw[hb]at h
  have hl:o.live=true:=by cases o<;>first|rfl|cases h
  rw[hE id o hb hl];exact h
theorem qL{B H:aa}(hE:Ext B H){n:Nat}{x:AV}{cs:List AV}(h:ea B n x=some cs):ea H n x=some cs:=by
 cases x with
 |ptr id ver i j=>exact zQ hE h
 |cc=>exact h
 |_=>cases h
def CO:Op→Bool
 | .load .. =>true
 | .fieldAddr .. =>true
 | .indexAddr .. =>true
 | .slice _ _ _ _ none=>true
 |_=>false
theorem yi{B H:aa}(hE:Ext B H){k:Nat}{lo:Option Int}{hi:Nat→Option Int}{x:AV}{K:AV→aa→Prop}{r:AV}(h:cY B k lo hi (fun r' _=>r'=r) x)(hk:K r H):cY H k lo hi K x:=by
 cases x with
 |d u=>
  cases u with
  |v _=>exact h.elim
  |list nn es=>
   simp only[cY]at h⊢
   refine⟨h.1,?_⟩
   replace h:=h.2
   cases lo with
   |none=>exact h
   |some l=>
    cases hq:hi es.length with
    |none=>rw[hq]at h;exact h
    |some m=>rw[hq]at h;exact⟨h.1,h.2.1,h.2.2.1,by rw[h.2.2.2];exact hk⟩
 |sl id ver off len=>
  simp only[cY]at h⊢
  cases ho:B[id]? with
  |none=>rw[ho]at h;exact h.elim
  |some o=>
   rw[ho]at h
   cases lo with
   |none=>exact h.elim
   |some l=>
    cases hq:hi len with
    |none=>rw[hq]at h;exact h.elim
    |some m=>
     rw[hq]at h
     rw[hE id o ho h.1.2.2]
     exact⟨h.1,h.2.1,h.2.2.1,h.2.2.2.1,h.2.2.2.2.1,by rw[h.2.2.2.2.2];exact hk⟩
 |_=>exact h.elim
theorem rE{B H:aa}(hE:Ext B H){x:AV}(h:fresh B x=true):fresh H x=true:=by
 cases x with
 |ptr id ver i j=>
  rw[rn]at h⊢
  cases hb:B[id]? with
  |none=>rw[hb]at h;cases h
  |some o=>
   rw[hb]at h
   rw[hE id o hb (by simp only[Bool.and_eq_true]at h;exact h.2)]
   exact h
 |_=>rfl
theorem AR{B H:aa}(hE:Ext B H){k:Nat}{i:Int}{x y:AV}(h:gu B k i x=some y):gu H k i x=some y:=by
 cases x with
 |d u=>cases u<;>exact h
 |sl id ver off len=>
  simp only[gu]at h⊢
  split at h
  ·rename_i h0
   rw[if_pos h0]
   obtain⟨ob,hob,h⟩:=Option.bind_eq_some_iff.1 h
   split at h
   ·rename_i hv
    rw[hE id ob hob hv.2.2,Option.bind_some,if_pos hv]
    exact h
   ·cases h
  ·cases h
 |_=>exact h
theorem Ci{P:Program}{s:Nat→AV}{B H:aa}{hint:Bool}{op:Op}(hl:CO op=true)(hE:Ext B H){K:AV→aa→Prop}{r:AV}
  (h:gJ P s B hint op fun r' _=>r'=r) (hk:K r H):gJ P s H hint op K:=by
 by_cases hfa:∃t x f,op= .fieldAddr t x f
 ·obtain⟨t,x,f,rfl⟩:=hfa
  unfold gJ at h⊢
  simp only at h⊢
  cases hf:FO P t f with
  |none=>rw[hf]at h;exact h
  |some of=>
   rw[hf]at h
   simp only at h⊢
   cases hi:TI P of.2 with
   |none=>rw[hi]at h;exact h
   |some z=>
    rw[hi]at h
    obtain⟨h1,h2,h⟩:=h
    refine⟨h1,rE hE h2,?_⟩
    cases ha:fQ of.1 (ah s x)with
    |none=>rw[ha]at h;exact h
    |some y=>rw[ha]at h;rw[show y=r from h];exact hk
 by_cases hia:∃t x ix,op= .indexAddr t x ix
 ·obtain⟨t,x,ix,rfl⟩:=hia
  unfold gJ at h⊢
  simp only at h⊢
  split at h
  ·split at h
   ·split at h
    ·split at h
     ·rename_i ha
      rw[AR hE ha]
      rw[show _=r from h]
      exact hk
     ·exact h.elim
    ·exact h.elim
   ·split at h
    ·split at h
     ·obtain⟨h0,h1,h2,h⟩:=h
      refine⟨h0,h1,rE hE h2,?_⟩
      split at h
      ·rename_i ha
       rw[show _=r from h]
       exact hk
      ·exact h.elim
     ·exact h.elim
    ·exact h.elim
  ·exact h.elim
 cases op<;>first|(exact absurd ⟨_,_,_,rfl⟩ hfa)|(exact absurd ⟨_,_,_,rfl⟩ hia)|cases hl|skip
 rotate_left
 ·rename_i t x lo hi mx
  cases mx with
  |some _=>cases hl
  |none=>
  unfold gJ at h⊢
  simp only at h⊢
  cases he:SE P t with
  |none=>
   rw[he]at h
   simp only at h⊢
   cases hae:AE P t with
   |some ne=>
    rw[hae]at h
    simp only at h⊢
    obtain⟨h1,h⟩:=h
    refine⟨h1,?_⟩
    cases hi2:TI P ne.2 with
    |none=>rw[hi2]at h;exact h
    |some z=>
     rw[hi2]at h
     obtain⟨h2,h⟩:=h
     refine⟨h2,?_⟩
     generalize ah s x=v at*
     cases v with
     |cc ds=>exact⟨h.1,by rw[show(AV.d (.list true (ds.map fun d=>[d])))=r from h.2];exact hk⟩
     |_=>exact h.elim
   |none=>
   rw[hae]at h
   obtain⟨hu,h⟩:=h
   refine⟨hu,?_⟩
   split at h
   ·rename_i c hc
    split at h
    ·rename_i l m hl hm
     first
      |exact⟨h.1,h.2.1,h.2.2.1,by rw[h.2.2.2];exact hk⟩
      |(rw[hl,hm];exact⟨h.1,h.2.1,h.2.2.1,by rw[h.2.2.2];exact hk⟩)
    ·exact h.elim
   ·exact h.elim
  |some e=>
   rw[he]at h
   simp only at h⊢
   cases hi2:TI P e with
   |none=>rw[hi2]at h;exact h
   |some z=>
    rw[hi2]at h
    obtain⟨z,k,b⟩:=z
    exact yi hE h hk
 rename_i t x
 unfold gJ at h⊢
 simp only at h⊢
 cases hg:dr P t with
 |none=>rw[hg]at h;exact h
 |some b=>
  rw[hg]at h
  cases b with
  |true=>
   simp only at h⊢
   split at h
   ·split at h
    ·rename_i cs hr
     rw[qL hE hr]
     subst h
     exact hk
    ·exact h.elim
   ·exact h.elim
  |false=>
   simp only at h⊢
   split at h
   ·rename_i c hr
    rw[qL hE hr]
    subst h
    exact hk
   ·exact h.elim
def js(hint:Nat→Bool)(first:Bool)(o:Oper):Bool:=Ff (match o.dst with|some d=>hint d|none=>false) o.op||(first&&CO o.op)
section
variable (P:Program) (hint:Nat→Bool) (n:Nat) (ops:Array Oper)
def bX(H:aa)(s:Nat→AV)(o:Oper)(r:AV)(H':aa):Prop:=match o.guard with
 |none=>∀K KP,K r H'→aB P hint s H o K KP
 |some (j,want)=>∃b,fx ops s n j want=some b∧if b=true then ∀K KP,K r H'→aB P hint s H o K KP else r= .a7 []∧H'=H
end
section
variable {P:Program} {hint:Nat→Bool} {n:Nat} {ops:Array Oper} {Q:aQ}
theorem bX.op{H H':aa}{s:Nat→AV}{o:Oper}{r:AV}(h:bX P hint n ops H s o r H'){K:(Nat→AV)→aa→Prop}(hk:K (bp n s o.dst r) H'):cN P hint n ops Q o K s H:=by
 unfold bX at h
 unfold cN
 split at h
 ·rename_i hg
  simp only[hg]
  exact h (fun r H'=>K (bp n s o.dst r) H') _ hk
 ·rename_i j want hg
  obtain⟨b,hb,h⟩:=h
  simp only[hg,hb]
  split at h
  ·rw[if_pos (by assumption)];exact h (fun r H'=>K (bp n s o.dst r) H') _ hk
  ·rw[if_neg (by assumption)];rw[h.1,h.2]at hk;exact hk
theorem bX.congr{H H':aa}{s s':Nat→AV}{o:Oper}{r:AV}(h:bX P hint n ops H s o r H')(h1:∀t∈j7 o,s t=s' t)(h2:∀j w,o.guard=some (j,w)→∀d,aY ops j=some d→s d=s' d):bX P hint n ops H s' o r H':=by
 unfold bX at h⊢
 split at h
 ·rename_i hg
  try simp only[hg]
  intro K KP hk
  rw[←gA h1]
  exact h K KP hk
 ·rename_i j want hg
  try simp only[hg]
  obtain⟨b,hb,h⟩:=h
  refine⟨b,?_,?_⟩
  ·rw[←hb]
   unfold fx
   have:=h2 j want hg
   unfold aY at this
   cases hd:(ops[j]?).bind (·.dst)with
   |none=>rfl
   |some d=>simp only[this d hd]
  ·split at h
   ·rw[if_pos (by assumption)]
    intro K KP hk
    rw[←gA h1]
    exact h K KP hk
   ·rw[if_neg (by assumption)];exact h
theorem oY(hc:oR hint ops)(m:Nat)(hm:m≤ops.size)(htl:∀i o,ops[i]?=some o→(i=m→∀j,j<m→cg ops 12 i j=true)∧(m<i→aP o (i-1)=true))(s:Nat→AV)(rs:Nat→AV)(HR:(Nat→Bool)→aa→Prop)
  (hHR:∀L L' H,(∀i,i<m→L i=L' i)→HR L H→HR L' H)
  (hstep:∀(L:Nat→Bool) (H:aa) i o,HR L H→i<m→ops[i]?=some o→L i=false→(∀j oj i',ops[j]?=some oj→L j=true→aP oj i'=true→L i'=true)→(∀j,aP o j=true→L j=true)→
   ∃H',bX P hint n ops H (bf n ops s rs i) o (rs i) H'∧HR (fun j=>if j=i then true else L j) H')
  (hQ:∀L H,(∀i,i<m→L i=true)→HR L H→aN P hint n ops Q (ops.toList.drop m) (bf n ops s rs m) H):
  ∀(fuel:Nat) (listed:Array Bool) (s':Nat→AV) (H:aa),listed.size=ops.size→(List.range ops.size).countP (fun j=> !listed.getD j true)≤fuel→
   (∀t j,aY ops j=some t→s' t=if listed.getD j false=true then(if t<n then rs j else .top)else s t)→(∀t,(∀j,aY ops j≠some t)→s' t=s t)→
   (∀j oj i,ops[j]?=some oj→listed.getD j false=true→aP oj i=true→listed.getD i false=true)→(∀i,m≤i→i<ops.size→listed.getD i false=false)→
   HR (fun c=>listed.getD c false) H→fu P hint n ops Q fuel listed s' H:=by
 have st_no:∀k t,(∀j,j<k→aY ops j≠some t)→bf n ops s rs k t=s t:=by
  intro k t
  induction k with
  |zero=>intro _;rfl
  |succ k ih=>
   intro h
   simp only[bf]
   cases hd:aY ops k with
   |none=>exact ih fun j hj=>h j (by omega)
   |some d=>
    simp only[bp]
    have:t≠d:=fun e=>h k (by omega) (by rw[hd,e])
    rw[if_neg this]
    exact ih fun j hj=>h j (by omega)
 have st_dst:∀k t j,aY ops j=some t→j<k→bf n ops s rs k t=if t<n then rs j else .top:=by
  intro k t j hj
  induction k with
  |zero=>intro h;omega
  |succ k ih=>
   intro h
   simp only[bf]
   by_cases e:j=k
   ·subst e
    rw[hj]
    simp only[bp,if_pos]
   ·have:=ih (by omega)
    cases hd:aY ops k with
    |none=>exact this
    |some d=>
     simp only[bp]
     have hne:t≠d:=fun e'=>e (hc.once j k t hj (by rw[hd,e']))
     rw[if_neg hne]
     exact this
 have bind_of:∀(listed:Array Bool) (o:Oper) (j:Nat),(o.after.all fun e=> !Region.binds .any e||listed.getD e.on false)=true→aP o j=true→listed.getD j false=true:=by
  intro listed o j h1 h2
  unfold aP at h2
  rw[List.any_eq_true]at h2
  obtain⟨e,he,h2⟩:=h2
  rw[Array.all_eq_true_iff_forall_mem]at h1
  have:=h1 e (Array.mem_toList_iff.1 he)
  simp only[Bool.and_eq_true,beq_iff_eq]at h2
  simpa[h2.1,h2.2]using this
 have fin:∀(listed:Array Bool) (s':Nat→AV),(∀i,i<m→listed.getD i true=true)→(∀i,m≤i→i<ops.size→listed.getD i false=false)→listed.size=ops.size→
   (∀t j,aY ops j=some t→s' t=if listed.getD j false=true then(if t<n then rs j else .top)else s t)→(∀t,(∀j,aY ops j≠some t)→s' t=s t)→s'=bf n ops s rs m:=by
  intro listed s' hall hno hsz h1 h2
  funext t
  by_cases hd:∃j,aY ops j=some t
  ·obtain⟨j,hj⟩:=hd
   have hjl:=dP hj
   rcases Nat.lt_or_ge j m with hjm|hjm
   ·have:listed.getD j false=true:=by
     have:=hall j hjm
     simpa[Array.getD,show j<listed.size by omega]using this
    rw[h1 t j hj,if_pos this,st_dst _ t j hj hjm]
   ·rw[h1 t j hj,if_neg (by simp[hno j hjm hjl]),st_no m t fun j' hj' hd'=>by
     have:=hc.once j' j t hd' hj
     omega]
  ·have hd':∀j,aY ops j≠some t:=fun j hj=>hd ⟨j,hj⟩
   rw[h2 t hd',st_no _ t fun j _=>hd' j]
 intro fuel
 induction fuel with
 |zero=>
  intro listed s' H hsz hcnt h1 h2 hcl hno hq
  have hall:∀i,i<ops.size→listed.getD i true=true:=by
   intro i hi
   have h0:(List.range ops.size).countP (fun j=> !listed.getD j true)=0:=by omega
   rw[List.countP_eq_zero]at h0
   simpa using h0 i (List.mem_range.2 hi)
  have hs':=fin listed s' (fun i hi=>hall i (by omega)) hno hsz h1 h2
  subst hs'
  have hQ:=hQ _ H (fun i hi=>by have:=hall i (by omega);simpa[Array.getD,show i<listed.size by omega]using this) hq
  exact fE hc (fun i o ho hi=>(htl i o ho).2 hi) hsz m (Nat.le_refl _) hm (fun i hi=>hall i (by omega)) (fun i hi hi2=>hno i hi hi2) hQ (by
   rcases Nat.lt_or_ge m ops.size with h|h
   ·have e1:=hall m h
    have e2:=hno m (Nat.le_refl _) h
    simp[Array.getD,show m<listed.size by omega]at e1 e2
    rw[e1]at e2
    cases e2
   ·omega)
 |succ fuel ih=>
  intro listed s' H hsz hcnt h1 h2 hcl hno hq
  by_cases hpre:∀i,i<m→listed.getD i true=true
  ·have hs':=fin listed s' hpre hno hsz h1 h2
   subst hs'
   have hQ:=hQ _ H (fun i hi=>by have:=hpre i hi;simpa[Array.getD,show i<listed.size by omega]using this) hq
   refine fE hc (fun i o ho hi=>(htl i o ho).2 hi) hsz m (Nat.le_refl _) hm hpre hno hQ ?_
   have hsub:(List.range ops.size).countP (fun j=>decide (m≤j))≤(List.range ops.size).countP (fun j=> !listed.getD j true):=by
    refine List.countP_mono_left fun j hj hmj=>?_
    have hj:=List.mem_range.1 hj
    have:=hno j (by simpa using hmj) hj
    simp[Array.getD,show j<listed.size by omega]at this⊢
    exact this
   have hcm:∀N,m≤N→(List.range N).countP (fun j=>decide (m≤j))=N-m:=by
    intro N hN
    induction N with
    |zero=>simp
    |succ N ihN=>
     rw[List.range_succ,List.countP_append,List.countP_singleton]
     by_cases e:m≤N
     ·rw[ihN e];simp[e];omega
     ·have e':m=N+1:=by omega
      have:(List.range N).countP (fun j=>decide (m≤j))=0:=by
       rw[List.countP_eq_zero]
       intro j hj
       have:=List.mem_range.1 hj
       simp;omega
      rw[this];simp[e];omega
   rw[hcm _ hm]at hsub
   omega
  have hex:∃i,i<m∧listed.getD i true=false∧∀j,j<i→listed.getD j true=true:=by
   have:∃i,i<m∧listed.getD i true=false:=by
    rcases Classical.not_forall.1 hpre with⟨i,hi⟩
    rcases Classical.not_imp.1 hi with⟨h1,h2⟩
    exact⟨i,h1,by simpa using h2⟩
   obtain⟨i,hi⟩:=this
   induction i using Nat.strongRecOn with
   |_ i ihi=>
    by_cases hj:∃j,j<i∧listed.getD j true=false
    ·obtain⟨j,hj1,hj2⟩:=hj
     exact ihi j hj1 ⟨by omega,hj2⟩
    ·refine⟨i,hi.1,hi.2,fun j hji=>?_⟩
     cases hq:listed.getD j true with
     |true=>rfl
     |false=>exact absurd ⟨j,hji,hq⟩ hj
  obtain⟨i0,hi0,hu0,hb0⟩:=hex
  refine⟨fun hr=>?_,fun i hi=>?_⟩
  ·exfalso
   have hlt0:i0<ops.size:=by omega
   have hget:ops[i0]?=some ops[i0]:=by simp[hlt0]
   have:i0∈Region.ready .any ops listed:=by
    unfold Region.ready
    rw[List.mem_filter]
    refine⟨List.mem_range.2 hlt0,?_⟩
    simp only[hu0,hget,Bool.not_false,Bool.true_and,Option.map_some,Option.getD_some]
    rw[Array.all_eq_true_iff_forall_mem]
    intro e he
    cases hbe:Region.binds .any e
    ·simp
    have hlt:=hc.down i0 _ hget e he hbe
    have:=hb0 e.on hlt
    have:listed.getD e.on false=true:=by simpa[Array.getD,show e.on<listed.size by omega]using this
    simp[this]
   rw[hr]at this
   simp at this
  ·unfold Region.ready at hi
   rw[List.mem_filter]at hi
   obtain⟨hi,hrd⟩:=hi
   have hi:=List.mem_range.1 hi
   have hget:ops[i]?=some ops[i]:=by simp[hi]
   simp only[hget,Option.map_some,Option.getD_some,Bool.and_eq_true,Bool.not_eq_true']at hrd
   obtain⟨hun,haft⟩:=hrd
   simp only[hget]
   have hdst:aY ops i=(ops[i]).dst:=by simp[aY,hget]
   have hun':listed.getD i false=false:=by simpa[Array.getD,show i<listed.size by omega]using hun
   have him:i<m:=by
    rcases Nat.lt_or_ge i m with h|h
    ·exact h
    ·exfalso
     have hu0':listed.getD i0 false=false:=by simpa[Array.getD,show i0<listed.size by omega]using hu0
     rcases Nat.lt_or_ge m i with h2|h2
     ·have:=bind_of listed ops[i] (i-1) haft ((htl i _ hget).2 h2)
      rw[hno (i-1) (by omega) (by omega)]at this
      cases this
     ·have him:i=m:=by omega
      have:=kL hcl 12 i _ hget (fun j hj=>bind_of listed ops[i] j haft hj) i0 ((htl i _ hget).1 him i0 hi0)
      rw[this]at hu0'
      cases hu0'
   have agree:∀t j,aY ops j=some t→aP ops[i] j=true→bf n ops s rs i t=s' t:=by
    intro t j hj hb
    have hl:=bind_of listed ops[i] j haft hb
    have hlt:j<i:=by
     unfold aP at hb
     rw[List.any_eq_true]at hb
     obtain⟨e,he,hb⟩:=hb
     simp only[Bool.and_eq_true,beq_iff_eq]at hb
     have:=hc.down i _ hget e (Array.mem_toList_iff.1 he) hb.1
     omega
    rw[st_dst i t j hj hlt,h1 t j hj,if_pos hl]
   have hrd:∀t∈j7 ops[i],bf n ops s rs i t=s' t:=by
    intro t ht
    by_cases hd:∃j,aY ops j=some t
    ·obtain⟨j,hj⟩:=hd
     rcases hc.reads i _ hget t ht j hj with hb|⟨oj,hoj,hb⟩
     ·exact agree t j hj hb
     ·have hnl:listed.getD j false=false:=by
       cases hq:listed.getD j false with
       |false=>rfl
       |true=>rw[hcl j oj i hoj hq hb]at hun';cases hun'
      have hlt:i<j:=by
       unfold aP at hb
       rw[List.any_eq_true]at hb
       obtain⟨e,he,hb⟩:=hb
       simp only[Bool.and_eq_true,beq_iff_eq]at hb
       have:=hc.down j _ hoj e (Array.mem_toList_iff.1 he) hb.1
       omega
      rw[h1 t j hj,if_neg (by simp[hnl]),st_no i t fun j' hj' hd'=>by
       have:=hc.once j' j t hd' hj
       omega]
    ·have hd':∀j,aY ops j≠some t:=fun j hj=>hd ⟨j,hj⟩
     rw[st_no i t fun j _=>hd' j,h2 t hd']
   have hgd:∀j w,(ops[i]).guard=some (j,w)→∀d,aY ops j=some d→bf n ops s rs i d=s' d:=fun j w hg d hd=>agree d j hd (hc.guard i _ hget j w hg)
   have hset:∀j b,(listed.setIfInBounds i true).getD j b=if j=i then true else listed.getD j b:=by
    intro j b
    simp only[Array.getD_eq_getD_getElem?,Array.getElem?_setIfInBounds]
    by_cases e:i=j
    ·subst e;simp[hsz,hi]
    ·rw[if_neg e,if_neg (Ne.symm e)]
   have go:∀H2,HR (fun c=>(listed.setIfInBounds i true).getD c false) H2→fu P hint n ops Q fuel (listed.setIfInBounds i true) (bp n s' (ops[i]).dst (rs i)) H2:=by
    intro H2 hq2
    refine ih _ _ _ (by simpa using hsz) ?_ ?_ ?_ ?_ ?_ hq2
    ·have:=mO (p:=fun j=> !(listed.setIfInBounds i true).getD j true) (q:=fun j=> !listed.getD j true) (i:=i) (fun j hj=>by
      simp only[hset]at hj⊢
      by_cases e:j=i
      ·simp[e]at hj
      ·simpa[e]using hj) (by simp[hset]) (by simp[hun]) (List.range ops.size) (List.mem_range.2 hi)
     omega
    ·intro t j hj
     rw[hset]
     by_cases e:j=i
     ·subst e
      rw[hdst]at hj
      rw[if_pos rfl,if_pos rfl,hj]
      simp only[bp,if_pos]
     ·rw[if_neg e]
      cases hd:(ops[i]).dst with
      |none=>exact h1 t j hj
      |some d=>
       simp only[bp]
       have:t≠d:=fun e'=>e (hc.once j i t hj (by rw[hdst,hd,e']))
       rw[if_neg this]
       exact h1 t j hj
    ·intro t ht
     cases hd:(ops[i]).dst with
     |none=>exact h2 t ht
     |some d=>
      simp only[bp]
      have:t≠d:=fun e'=>ht i (by rw[hdst,hd,e'])
      rw[if_neg this]
      exact h2 t ht
    ·intro j oj i' hoj hlj hb
     rw[hset]at hlj⊢
     by_cases e':i'=i
     ·rw[if_pos e']
     ·rw[if_neg e']
      by_cases e:j=i
      ·subst e
       rw[hget]at hoj
       cases hoj
       exact bind_of listed _ i' haft hb
      ·rw[if_neg e]at hlj
       exact hcl j oj i' hoj hlj hb
    ·intro j hj hj2
     rw[hset,if_neg (by omega)]
     exact hno j hj hj2
   obtain⟨H2,hst,hr2⟩:=hstep (fun c=>listed.getD c false) H i _ hq him hget hun' hcl (fun j hj=>bind_of listed ops[i] j haft hj)
   refine bX.op (hst.congr hrd hgd) (go _ (hHR _ _ _ (fun j _=>?_) hr2))
   rw[hset]
theorem kV(hc:oR hint ops)(m:Nat)(hm:m≤ops.size)(htl:∀i o,ops[i]?=some o→(i=m→∀j,j<m→cg ops 12 i j=true)∧(m<i→aP o (i-1)=true))(s:Nat→AV)(rs:Nat→AV)(hp:Nat→aa)(ch:Nat→Bool)
  (hch:∀c c',c<c'→c'<m→ch c=true→ch c'=true→cg ops 12 c' c=true) (hfr:∀i,i<m→ch i=false→hp (i+1)=hp i)
  (hst:∀i o,i<m→ops[i]?=some o→ch i=true→bX P hint n ops (hp i) (bf n ops s rs i) o (rs i) (hp (i+1)))
  (hsf:∀i o,i<m→ops[i]?=some o→ch i=false→∀j,j≤m→(∀c,c<j→ch c=true→cg ops 12 c i=false)→bX P hint n ops (hp j) (bf n ops s rs i) o (rs i) (hp j))
  (hQ:aN P hint n ops Q (ops.toList.drop m) (bf n ops s rs m) (hp m)):
  ∀(fuel:Nat) (listed:Array Bool) (s':Nat→AV) (H:aa),listed.size=ops.size→(List.range ops.size).countP (fun j=> !listed.getD j true)≤fuel→
   (∀t j,aY ops j=some t→s' t=if listed.getD j false=true then(if t<n then rs j else .top)else s t)→(∀t,(∀j,aY ops j≠some t)→s' t=s t)→
   (∀j oj i,ops[j]?=some oj→listed.getD j false=true→aP oj i=true→listed.getD i false=true)→(∀i,m≤i→i<ops.size→listed.getD i false=false)→
   (∃q,q≤m∧H=hp q∧∀c,c<m→ch c=true→(listed.getD c false=true↔c<q))→fu P hint n ops Q fuel listed s' H:=by
 have hsame:∀d q,q+d≤m→(∀c,c<m→ch c=true→(c<q↔c<q+d))→hp (q+d)=hp q:=by
  intro d
  induction d with
  |zero=>intros;rfl
  |succ d ihd=>
   intro q hq hcc
   have h1:ch (q+d)=false:=by
    cases h:ch (q+d)with
    |false=>rfl
    |true=>have:=(hcc (q+d) (by omega) h).2 (by omega);omega
   rw[←Nat.add_assoc,hfr (q+d) (by omega) h1]
   refine ihd q (by omega) fun c hcm hct=>⟨fun h=>by omega,fun h=>(hcc c hcm hct).2 (by omega)⟩
 have hsame2:∀q i,q≤m→i≤m→(∀c,c<m→ch c=true→(c<q↔c<i))→hp q=hp i:=by
  intro q i hq hi hcc
  rcases Nat.le_total q i with h|h
  ·obtain⟨d,rfl⟩:=Nat.exists_eq_add_of_le h
   exact(hsame d q hi hcc).symm
  ·obtain⟨d,rfl⟩:=Nat.exists_eq_add_of_le h
   exact hsame d i hq fun c hcm hct=>(hcc c hcm hct).symm
 intro fuel listed s' H hsz hcnt h1 h2 hcl hno hq
 refine oY hc m hm htl s rs (fun L H=>∃q,q≤m∧H=hp q∧∀c,c<m→ch c=true→(L c=true↔c<q)) ?_ ?_ ?_ fuel listed s' H hsz hcnt h1 h2 hcl hno hq
 ·rintro L L' H hL ⟨q,hqm,rfl,hql⟩
  exact⟨q,hqm,rfl,fun c hcm hct=>by rw[←hL c hcm];exact hql c hcm hct⟩
 ·rintro L _ i o ⟨q,hqm,rfl,hql⟩ him hget hun' hcl hbi
  have breach:∀c o',ops[c]?=some o'→(∀j,aP o' j=true→L j=true)→∀i',cg ops 12 c i'=true→L i'=true:=fun c o' hoc hb i' hr=>eT hcl 12 c o' hoc hb i' hr
  cases hci:ch i with
  |false=>
   have hnr:∀c,c<q→ch c=true→cg ops 12 c i=false:=fun c hcq hct=>by
    cases hr:cg ops 12 c i with
    |false=>rfl
    |true=>
     exfalso
     have hgc:ops[c]?=some ops[c]:=by simp[show c<ops.size by omega]
     have hl:=(hql c (by omega) hct).2 hcq
     have:=breach c _ hgc (fun j hj=>hcl c _ j hgc hl hj) i hr
     rw[hun']at this
     cases this
   refine⟨_,hsf i _ him hget hci q hqm hnr,q,hqm,rfl,fun c hcm hct=>?_⟩
   show(if c=i then true else L c)=true↔c<q
   rw[if_neg (by intro e;rw[e,hci]at hct;cases hct)]
   exact hql c hcm hct
  |true=>
   have hbef:∀c,c<m→ch c=true→(L c=true↔c<i):=by
    intro c hcm hct
    refine⟨fun hl=>?_,fun hlt=>?_⟩
    ·rcases Nat.lt_trichotomy c i with h|h|h
     ·exact h
     ·subst h;rw[hun']at hl;cases hl
     ·exfalso
      have hgc:ops[c]?=some ops[c]:=by simp[show c<ops.size by omega]
      have:=breach c _ hgc (fun j hj=>hcl c _ j hgc hl hj) i (hch i c h hcm hci hct)
      rw[hun']at this
      cases this
    ·exact breach i _ hget hbi c (hch c i hlt him hct hci)
   have hqi:hp q=hp i:=hsame2 q i hqm (by omega) fun c hcm hct=>(hql c hcm hct).symm.trans (hbef c hcm hct)
   rw[hqi]
   refine⟨_,hst i _ him hget hci,i+1,by omega,rfl,fun c hcm hct=>?_⟩
   show(if c=i then true else L c)=true↔c<i+1
   by_cases e:c=i
   ·subst e;simp
   ·rw[if_neg e]
    refine(hbef c hcm hct).trans ⟨fun h=>by omega,fun h=>by omega⟩
 ·rintro L _ hall ⟨q,hqm,rfl,hql⟩
  rw[hsame2 q m hqm (Nat.le_refl _) fun c hcm hct=>⟨fun _=>hcm,fun _=>(hql c hcm hct).1 (hall c hcm)⟩]
  exact hQ
end
section
variable (P:Program) (hint:Nat→Bool) (n:Nat) (ops:Array Oper)
def dE(B:aa)(Q:aQ):List Bool→List Oper→(Nat→AV)→aa→Prop
 |[],l,s,H=>aN P hint n ops Q l s H
 |_::_,[],s,H=>aN P hint n ops Q [] s H
 |true::bs,o::rest,s,H=>cN P hint n ops (fun _ _ _=>False) o (fun s' H'=>Ext B H'∧dE B Q bs rest s' H') s H
 |false::bs,o::rest,s,H=>cN P hint n ops (fun _ _ _=>False) o (fun s' H'=>H'=H∧dE B Q bs rest s' H') s H
end
section
variable {P:Program} {hint:Nat→Bool} {n:Nat} {ops:Array Oper} {Q:aQ}
theorem jr{o:Oper}(hdt:jW hint o.op=true){s:Nat→AV}{H:aa}{K:(Nat→AV)→aa→Prop}(h:cN P hint n ops (fun _ _ _=>False) o K s H):∃r H',bX P hint n ops H s o r H'∧K (bp n s o.dst r) H':=by
 unfold cN at h
 split at h
 ·rename_i hg
  obtain⟨r,H',hr,hdet⟩:=eH hdt h
  exact⟨r,H',by unfold bX;simp only[hg];exact fun K KP hk=>hdet K KP hk,hr⟩
 ·rename_i j want hg
  split at h
  ·rename_i b hb
   split at h
   ·rename_i hbw
    obtain⟨r,H',hr,hdet⟩:=eH hdt h
    exact⟨r,H',by unfold bX;simp only[hg];exact⟨b,hb,by rw[if_pos hbw];exact fun K KP hk=>hdet K KP hk⟩,hr⟩
   ·rename_i hbw
    exact⟨.a7 [],H,by unfold bX;simp only[hg];exact⟨b,hb,by simp[hbw]⟩,h⟩
  ·exact h.elim
theorem iU{B:aa}(hdt:∀(i:Nat) (o:Oper),ops[i]?=some o→jW hint o.op=true)(s0:Nat→AV):∀(bs:List Bool) (k:Nat) (rs0:Nat→AV) (hp0:Nat→aa),k+bs.length≤ops.size→dE P hint n ops B Q bs (ops.toList.drop k) (bf n ops s0 rs0 k) (hp0 k)→
  ∃(rs:Nat→AV) (hp:Nat→aa),(∀i,i<k→rs i=rs0 i)∧(∀i,i≤k→hp i=hp0 i)∧
   (∀i o,k≤i→i<k+bs.length→ops[i]?=some o→(bs[i-k]?=some true→bX P hint n ops (hp i) (bf n ops s0 rs i) o (rs i) (hp (i+1))∧Ext B (hp (i+1)))∧
    (bs[i-k]?=some false→bX P hint n ops (hp i) (bf n ops s0 rs i) o (rs i) (hp i)∧hp (i+1)=hp i))∧
   aN P hint n ops Q (ops.toList.drop (k+bs.length)) (bf n ops s0 rs (k+bs.length)) (hp (k+bs.length))
 |[],k,rs0,hp0,hk,h=>⟨rs0,hp0,fun _ _=>rfl,fun _ _=>rfl,fun i o h1 h2=>by simp at h2;omega,by
   have h:aN P hint n ops Q (ops.toList.drop k) (bf n ops s0 rs0 k) (hp0 k):=by
    cases hd:ops.toList.drop k<;>(rw[hd]at h;exact h)
   exact h⟩
 |b::bs,k,rs0,hp0,hk,h=>by
  simp only[List.length_cons]at hk
  have hlt:k<ops.size:=by omega
  have hget:ops[k]?=some ops[k]:=by simp[hlt]
  have hd:ops.toList.drop k=ops[k]::ops.toList.drop (k+1):=by
   rw[List.drop_eq_getElem_cons (by simpa using hlt)];simp
  rw[hd]at h
  have hdst:aY ops k=(ops[k]).dst:=by simp[aY,hget]
  have step:∃r H',bX P hint n ops (hp0 k) (bf n ops s0 rs0 k) ops[k] r H'∧(b=true→Ext B H')∧(b=false→H'=hp0 k)∧dE P hint n ops B Q bs (ops.toList.drop (k+1)) (bp n (bf n ops s0 rs0 k) (ops[k]).dst r) H':=by
   cases b with
   |true=>
    obtain⟨r,H',h1,h2,h3⟩:=jr (hdt k _ hget) h
    exact⟨r,H',h1,fun _=>h2,fun e=>(by cases e),h3⟩
   |false=>
    obtain⟨r,H',h1,rfl,h3⟩:=jr (hdt k _ hget) h
    exact⟨r,_,h1,fun e=>(by cases e),fun _=>rfl,h3⟩
  obtain⟨r,H',h1,h2,h3,h4⟩:=step
  let rs1:Nat→AV:=fun i=>if i=k then r else rs0 i
  let hp1:Nat→aa:=fun i=>if i=k+1 then H' else hp0 i
  have e1:rs1 k=r:=if_pos rfl
  have e2:hp1 (k+1)=H':=if_pos rfl
  have hst:∀(rs:Nat→AV) i,i≤k→(∀j,j<i→rs j=rs0 j)→bf n ops s0 rs i=bf n ops s0 rs0 i:=by
   intro rs i
   induction i with
   |zero=>intros;rfl
   |succ i ih=>
    intro hi hr
    simp only[bf,ih (by omega) fun j hj=>hr j (by omega),hr i (by omega)]
  have h5:dE P hint n ops B Q bs (ops.toList.drop (k+1)) (bf n ops s0 rs1 (k+1)) (hp1 (k+1)):=by
   rw[e2]
   simp only[bf,e1,hdst]
   rw[hst rs1 k (Nat.le_refl _) fun j hj=>if_neg (by omega)]
   exact h4
  obtain⟨rs,hp,g1,g2,g3,g4⟩:=iU hdt s0 bs (k+1) rs1 hp1 (by omega) h5
  have f1:∀i,i<k→rs i=rs0 i:=fun i hi=>by rw[g1 i (by omega)];exact if_neg (by omega)
  have f2:∀i,i≤k→hp i=hp0 i:=fun i hi=>by rw[g2 i (by omega)];exact if_neg (by omega)
  have f3:rs k=r:=by rw[g1 k (by omega)];exact e1
  have f4:hp (k+1)=H':=by rw[g2 (k+1) (by omega)];exact e2
  refine⟨rs,hp,f1,f2,fun i o hi hi2 ho=>?_,by rw[List.length_cons,show k+(bs.length+1)=k+1+bs.length from by omega];exact g4⟩
  rcases Nat.lt_or_ge k i with hki|hki
  ·have:=g3 i o hki (by simp only[List.length_cons]at hi2;omega) ho
   rw[show i-k=(i-(k+1))+1 from by omega,List.getElem?_cons_succ]
   exact this
  ·obtain rfl:i=k:=by omega
   rw[hget]at ho
   cases ho
   rw[Nat.sub_self,List.getElem?_cons_zero,f2 i (Nat.le_refl _),f3,f4,hst rs i (Nat.le_refl _) fun j hj=>f1 j hj]
   refine⟨fun e=>?_,fun e=>?_⟩
   ·exact⟨h1,h2 (Option.some.inj e)⟩
   ·have:=h3 (Option.some.inj e)
    subst this
    exact⟨h1,rfl⟩
theorem rf{o:Oper}{s:Nat→AV}{H:aa}{K:AV→aa→Prop}{KP:Value→aa→Prop}(h1:∀x,o.op≠ .panic x)(h2:∀c,o.op≠ .call c):aB P hint s H o K KP=gJ P s H (match o.dst with|some d=>hint d|none=>false) o.op K:=by
 unfold aB
 split
 ·rename_i x hx;exact absurd hx (h1 x)
 ·rename_i c hx;exact absurd hx (h2 c)
 ·rfl
theorem nI{o:Oper}{s:Nat→AV}{B H H2:aa}{r:AV}{first:Bool}(hf:js hint first o=true)(hE:first=true→Ext H H2)(h:∀K KP,K r H→aB P hint s H o K KP):∀K KP,K r H2→aB P hint s H2 o K KP:=by
 intro K KP hk
 have h0:=h (fun r' _=>r'=r) (fun _ _=>False) rfl
 unfold js at hf
 rw[Bool.or_eq_true]at hf
 rcases hf with hf|hf
 ·have n1:∀x,o.op≠ .panic x:=fun x e=>by rw[e]at hf;cases hf
  have n2:∀c,o.op≠ .call c:=fun x e=>by rw[e]at hf;cases hf
  rw[rf n1 n2]at h0⊢
  rw[Dj (H:=H2) (H2:=H) hf]
  exact vM (fun r' _ e=>by rw[e];exact hk) h0
 ·rw[Bool.and_eq_true]at hf
  have n1:∀x,o.op≠ .panic x:=fun x e=>by rw[e]at hf;cases hf.2
  have n2:∀c,o.op≠ .call c:=fun x e=>by rw[e]at hf;cases hf.2
  rw[rf n1 n2]at h0⊢
  exact Ci hf.2 (hE hf.1) h0 hk
theorem dI{o:Oper}{s:Nat→AV}{H H2:aa}{r:AV}{first:Bool}(hf:js hint first o=true)(hE:first=true→Ext H H2)(h:bX P hint n ops H s o r H):bX P hint n ops H2 s o r H2:=by
 unfold bX at h⊢
 split at h
 ·rename_i hg
  try simp only[hg]
  exact nI (B:=H) hf hE h
 ·rename_i j want hg
  try simp only[]
  obtain⟨b,hb,h⟩:=h
  refine⟨b,hb,?_⟩
  split at h
  ·rw[if_pos (by assumption)];exact nI (B:=H) hf hE h
  ·rw[if_neg (by assumption)];simp[h.1]
end
def u6(hint:Nat→Bool)(ops:Array Oper)(bs:List Bool):Bool:=(List.range bs.length).all fun i=>match bs[i]?,ops[i]? with
 |some false,some o=>js hint ((bs.take i).all (!·)) o
 |some true,some _=>(List.range i).all fun c=>bs[c]?==some false||cg ops 12 i c
 |_,_=>false
section
variable {P:Program} {hint:Nat→Bool} {n:Nat} {ops:Array Oper} {Q:aQ}
theorem q9(bs:List Bool){H0 H:aa}{id:Nat}{s:Nat→AV}(hm:P.follows .mixedOrders=true)(hc:dK hint ops=true)(ht:dH ops bs.length=true)(hx:u6 hint ops bs=true)
  (h:dE P hint n ops H Q bs ops.toList s H):cE P hint n H0 (.region id ops true) Q s H:=by
 obtain⟨hms,htl⟩:=eA ht
 refine⟨hm,?_⟩
 obtain⟨rs,hp,_,g2,g3,g4⟩:=iU (cf hc).Ir s bs 0 (fun _=> .top) (fun _=>H) (by omega) h
 have g20:hp 0=H:=g2 0 (Nat.le_refl _)
 simp only[Nat.zero_add,Nat.sub_zero,Nat.zero_le,true_implies]at g3 g4
 unfold u6 at hx
 rw[List.all_eq_true]at hx
 have hget:∀i,i<bs.length→∃o,ops[i]?=some o:=fun i hi=>⟨ops[i]'(by omega),by simp[show i<ops.size by omega]⟩
 have hbs:∀i (hi:i<bs.length),bs[i]?=some bs[i]:=fun i hi=>List.getElem?_eq_getElem hi
 have hext:∀j,j≤bs.length→Ext H (hp j):=by
  intro j
  induction j with
  |zero=>intro _;rw[g20];exact Ext.refl H
  |succ j ihj=>
   intro hj
   obtain⟨o,ho⟩:=hget j (by omega)
   have g:=g3 j o (by omega) ho
   have hb:=hbs j (by omega)
   cases hbj:bs[j]'(by omega)with
   |true=>rw[hbj]at hb;exact(g.1 hb).2
   |false=>rw[hbj]at hb;rw[(g.2 hb).2];exact ihj (by omega)
 let ch:Nat→Bool:=fun i=>bs[i]?.getD false
 have chT:∀i,i<bs.length→ch i=true→bs[i]?=some true:=fun i hi h=>by
  have h:bs[i]?.getD false=true:=h
  rw[hbs i hi]at h⊢
  simpa using h
 have chF:∀i,i<bs.length→ch i=false→bs[i]?=some false:=fun i hi h=>by
  have h:bs[i]?.getD false=false:=h
  rw[hbs i hi]at h⊢
  simpa using h
 have hbase:∀i,i≤bs.length→(∀c,c<i→ch c=false)→hp i=H:=by
  intro i
  induction i with
  |zero=>intros;exact g20
  |succ i ihi=>
   intro hi hcf
   obtain⟨o,ho⟩:=hget i (by omega)
   rw[((g3 i o (by omega) ho).2 (chF i (by omega) (hcf i (by omega)))).2]
   exact ihi (by omega) fun c hc=>hcf c (by omega)
 refine kV (cf hc) bs.length hms htl s rs hp ch ?_ ?_ ?_ ?_ g4 ops.size (Array.replicate ops.size false) s H (by simp) ?_ ?_ ?_ ?_ ?_ ⟨0,Nat.zero_le _,g20.symm,fun c hcm hct=>?_⟩
 ·intro c c' h1 h2 h3 h4
  have:=hx c' (List.mem_range.2 h2)
  obtain⟨o,ho⟩:=hget c' h2
  rw[chT c' h2 h4,ho]at this
  simp only[List.all_eq_true]at this
  have:=this c (List.mem_range.2 h1)
  rw[chT c (by omega) h3]at this
  simpa using this
 ·intro i hi hci
  obtain⟨o,ho⟩:=hget i hi
  exact((g3 i o hi ho).2 (chF i hi hci)).2
 ·intro i o hi ho hci
  exact((g3 i o hi ho).1 (chT i hi hci)).1
 ·intro i o hi ho hci j hj _
  have hfl:=hx i (List.mem_range.2 hi)
  rw[chF i hi hci,ho]at hfl
  refine dI hfl (fun hfirst=>?_) ((g3 i o hi ho).2 (chF i hi hci)).1
  rw[hbase i (by omega) fun c hc=>?_]
  ·exact hext j hj
  ·rw[List.all_eq_true]at hfirst
   have:=hfirst (bs[c]'(by omega)) (by
    rw[List.mem_iff_getElem]
    exact⟨c,by simp;omega,by simp⟩)
   show bs[c]?.getD false=false
   rw[hbs c (by omega)]
   simpa using this
 ·exact Nat.le_trans List.countP_le_length (by simp)
 ·intro t j hj
  have hjl:=dP hj
  rw[if_neg (by simp[Array.getD,hjl])]
 ·intro t _;rfl
 ·intro j oj i hoj hl
  have hjl:=(Array.getElem?_eq_some_iff.1 hoj).1
  simp[Array.getD,hjl]at hl
 ·intro i hi hi2
  simp[Array.getD,hi2]
 ·have:c<ops.size:=by omega
  simp[Array.getD,this]
end
def q5(hint:Nat→Bool)(ops:Array Oper)(bs:List Bool)(c0:Nat):Bool:=bs[c0]?==some true&&(List.range bs.length).all fun i=>match bs[i]?,ops[i]? with
 |some false,some o=>js hint false o||(decide (i<c0)&&cg ops 12 c0 i)
 |some true,some _=>decide (c0≤i)&&(List.range i).all fun c=>bs[c]?==some false||cg ops 12 i c
 |_,_=>false
theorem Ext.nil(H:aa):Ext [] H=True:=eq_true fun id o h _=>by simp at h
section
variable {P:Program} {hint:Nat→Bool} {n:Nat} {ops:Array Oper} {Q:aQ}
theorem ee(bs:List Bool)(c0:Nat){H0 H:aa}{id:Nat}{s:Nat→AV}(hm:P.follows .mixedOrders=true)(hc:dK hint ops=true)(ht:dH ops bs.length=true)(hx:q5 hint ops bs c0=true)
  (h:dE P hint n ops [] Q bs ops.toList s H):cE P hint n H0 (.region id ops true) Q s H:=by
 obtain⟨hms,htl⟩:=eA ht
 refine⟨hm,?_⟩
 obtain⟨rs,hp,_,g2,g3,g4⟩:=iU (cf hc).Ir s bs 0 (fun _=> .top) (fun _=>H) (by omega) h
 have g20:hp 0=H:=g2 0 (Nat.le_refl _)
 simp only[Nat.zero_add,Nat.sub_zero,Nat.zero_le,true_implies]at g3 g4
 unfold q5 at hx
 rw[Bool.and_eq_true,List.all_eq_true]at hx
 obtain⟨hx0,hx⟩:=hx
 have hx0:bs[c0]?=some true:=by simpa using hx0
 have hget:∀i,i<bs.length→∃o,ops[i]?=some o:=fun i hi=>⟨ops[i]'(by omega),by simp[show i<ops.size by omega]⟩
 have hbs:∀i (hi:i<bs.length),bs[i]?=some bs[i]:=fun i hi=>List.getElem?_eq_getElem hi
 let ch:Nat→Bool:=fun i=>bs[i]?.getD false
 have chT:∀i,i<bs.length→ch i=true→bs[i]?=some true:=fun i hi h=>by
  have h:bs[i]?.getD false=true:=h
  rw[hbs i hi]at h⊢
  simpa using h
 have chF:∀i,i<bs.length→ch i=false→bs[i]?=some false:=fun i hi h=>by
  have h:bs[i]?.getD false=false:=h
  rw[hbs i hi]at h⊢
  simpa using h
 have hc0:ch c0=true:=by show bs[c0]?.getD false=true;rw[hx0];rfl
 have hfirst:∀i,i<bs.length→i<c0→ch i=false:=by
  intro i hi hlt
  cases hci:ch i with
  |false=>rfl
  |true=>
   exfalso
   obtain⟨o,ho⟩:=hget i hi
   have:=hx i (List.mem_range.2 hi)
   rw[chT i hi hci,ho]at this
   simp only[Bool.and_eq_true,decide_eq_true_eq]at this
   omega
 have hbase:∀i,i≤bs.length→i≤c0→hp i=H:=by
  intro i
  induction i with
  |zero=>intros;exact g20
  |succ i ihi=>
   intro hi hcf
   obtain⟨o,ho⟩:=hget i (by omega)
   rw[((g3 i o (by omega) ho).2 (chF i (by omega) (hfirst i (by omega) (by omega)))).2]
   exact ihi (by omega) (by omega)
 refine kV (cf hc) bs.length hms htl s rs hp ch ?_ ?_ ?_ ?_ g4 ops.size (Array.replicate ops.size false) s H (by simp) ?_ ?_ ?_ ?_ ?_ ⟨0,Nat.zero_le _,g20.symm,fun c hcm hct=>?_⟩
 ·intro c c' h1 h2 h3 h4
  have:=hx c' (List.mem_range.2 h2)
  obtain⟨o,ho⟩:=hget c' h2
  rw[chT c' h2 h4,ho]at this
  simp only[Bool.and_eq_true,List.all_eq_true]at this
  have:=this.2 c (List.mem_range.2 h1)
  rw[chT c (by omega) h3]at this
  simpa using this
 ·intro i hi hci
  obtain⟨o,ho⟩:=hget i hi
  exact((g3 i o hi ho).2 (chF i hi hci)).2
 ·intro i o hi ho hci
  exact((g3 i o hi ho).1 (chT i hi hci)).1
 ·intro i o hi ho hci j hj hnr
  have hfl:=hx i (List.mem_range.2 hi)
  rw[chF i hi hci,ho]at hfl
  simp only[Bool.or_eq_true,Bool.and_eq_true,decide_eq_true_eq]at hfl
  have hs:=((g3 i o hi ho).2 (chF i hi hci)).1
  rcases hfl with hfl|⟨hlt,hre⟩
  ·exact dI hfl (fun hf=>by cases hf) hs
  ·have hjc:j≤c0:=by
    rcases Nat.lt_or_ge c0 j with h1|h1
    ·have:=hnr c0 h1 hc0
     rw[hre]at this;cases this
    ·exact h1
   rw[hbase j hj hjc]
   rw[hbase i (by omega) (by omega)]at hs
   exact hs
 ·exact Nat.le_trans List.countP_le_length (by simp)
 ·intro t j hj
  have hjl:=dP hj
  rw[if_neg (by simp[Array.getD,hjl])]
 ·intro t _;rfl
 ·intro j oj i hoj hl
  have hjl:=(Array.getElem?_eq_some_iff.1 hoj).1
  simp[Array.getD,hjl]at hl
 ·intro i hi hi2
  simp[Array.getD,hi2]
 ·have:c<ops.size:=by omega
  simp[Array.getD,this]
end
section
variable (P:Program) (hint:Nat→Bool) (n:Nat) (ops:Array Oper) (Q:aQ) (rest:List Oper) (s:Nat→AV) (H B:aa) (bs:List Bool)
def CH(b:Bool)(d:Option Tmp)(H0:aa):AV→aa→Prop:=fun r H'=>(match b with|true=>Ext B H'|false=>H'=H0)∧dE P hint n ops B Q bs rest (bp n s d r) H'
theorem z8(d:Option Tmp)(H0:aa)(r:AV):CH P hint n ops Q rest s B bs true d H0 r H=(Ext B H∧dE P hint n ops B Q bs rest (bp n s d r) H):=rfl
theorem wR(d:Option Tmp)(H0:aa)(r:AV):CH P hint n ops Q rest s B bs false d H0 r H=(H=H0∧dE P hint n ops B Q bs rest (bp n s d r) H):=rfl
theorem xV(l:List Oper):dE P hint n ops B Q [] l s H=aN P hint n ops Q l s H:=by cases l<;>rfl
theorem uN(b:Bool)(d:Option Tmp)(op:Op)(ty:TypeId)(p:String)(af:Array Edge):dE P hint n ops B Q (b::bs) (⟨d,op,ty,p,af,none⟩::rest) s H=aB P hint s H ⟨d,op,ty,p,af,none⟩ (CH P hint n ops Q rest s B bs b d H) BN:=by
 cases b<;>simp only[dE,cN]<;>rfl
theorem AW(l:List Oper):dE P hint n ops B Q bs l.toArray.toList s H=dE P hint n ops B Q bs l s H:=rfl
end
@[congr] theorem KK {P:Program} {hint:Nat→Bool} {n:Nat} {ops:Array Oper} {Q:aQ} {bs:List Bool} {l:List Oper} {s:Nat→AV} {B H H':aa} (h:nf H=H'):dE P hint n ops B Q bs l s H=dE P hint n ops B Q bs l s H':=by rw[←h];rfl
@[congr] theorem Jv {P:Program} {hint:Nat→Bool} {n:Nat} {ops:Array Oper} {Q:aQ} {rest:List Oper} {s:Nat→AV} {bs:List Bool} {b:Bool} {d:Option Tmp} {B H0 H H':aa} {r r':AV} (g:nf r=r') (h:nf H=H'):CH P hint n ops Q rest s B bs b d H0 r H=CH P hint n ops Q rest s B bs b d H0 r' H':=by rw[←g,←h];rfl
attribute [go_sem] Ext.nil z8 wR xV uN AW
theorem tf.mono{P:Program}{f:FuncId}{vals:Array Value}{w:World}{R R':Ending→World→Prop}(h:tf P f vals w R)(hR:∀e w',R e w'→R' e w'):tf P f vals w R':=by
 rcases h with⟨h1,h2⟩|⟨v,w',h1,h2⟩
 ·exact .inl ⟨h1,h2.mono hR⟩
 ·exact .inr ⟨v,w',h1,hR _ _ h2⟩
def sZ(r:AV):Nat→AV:=fun t=>if t=0 then r else .top
theorem ag.EJ{P:Program}{f:FuncId}{args:List AV}{H H1 H2:aa}{r:AV}{s':Nat→AV}(h:ag P f args H (.ok r) H1)(hW:ak H (sZ r) H1 s' H2):ag P f args H (.ok (s' 0)) H2:=by
 intro φ N w vals hR hA
 refine(h φ N w vals hR hA).mono ?_
 rintro e w' ⟨φ1,N1,hR1,hS1,hE⟩
 cases e with
 |returned v=>
  have hI:Inv H φ N w 1 ⟨true,[]⟩ (sZ r) H1 φ1 N1 {tmps:=#[v],defers:=[]} w':=by
   refine⟨hR1,fun t=>?_,hS1,rfl,jk.refl⟩
   unfold sZ
   by_cases ht:t=0
   ·subst ht;exact hE
   ·rw[if_neg ht];exact .top _
  obtain⟨φ2,N2,hI2⟩:=hW.ok hR hI
  exact⟨φ2,N2,hI2.rel,hI2.since,hI2.tmps 0⟩
 |panicked _=>exact hE.elim
 |outgrown=>exact hE.elim
theorem ag.drop{P:Program}{f:FuncId}{args:List AV}{H T:aa}{r:AV}(h:ag P f args H (.ok r) (H++T)):ag P f args H (.ok (pZ (H++T) H.length r)) H:=h.EJ (ak.drop H T _)
theorem y1(H:aa)(e:TypeId)(k v n:Nat)(es:List (List D))(h:es.length=n):pZ (H++[.arr e k v es]) H.length (.sl H.length v 0 n)= .d (.list false es):=by
 rw[BQ,zH,if_neg (Nat.lt_irrefl _),kO]
 simp only[if_true,List.drop_zero]
 rw[b8 _ _ h]
theorem ag.list{P:Program}{f:FuncId}{args:List AV}{H:aa}{e:TypeId}{k v n:Nat}{es:List (List D)}(h:ag P f args H (.ok (.sl H.length v 0 n)) (H++[.arr e k v es]))(hn:es.length=n):ag P f args H (.ok (.d (.list false es))) H:=by
 have:=h.drop
 rwa[y1 _ _ _ _ _ _ hn]at this
theorem an.JK{rs:List Tmp}{H H' T:aa}{s:Nat→AV}{r:AV}(e:H'=H++T)(h:r=jV rs fun t=>pZ H' H.length (s t)):an rs H (.ok r) H .ret s H':=by subst e;exact an.ret h
theorem ag.imp{P:Program}{f:FuncId}{args:List AV}{H H':aa}{r r':AV}(h:ag P f args H (.ok r) H')(hr:∀φ N w v,RA H' φ N w r v→RA H' φ N w r' v):ag P f args H (.ok r') H':=by
 have:=h.EJ (s':=sZ r') (.imp _ _ _ fun φ N w u v hv=>?_)
 ·exact this
 ·unfold sZ at hv⊢
  by_cases hu:u=0
  ·rw[if_pos hu]at hv⊢;exact hr _ _ _ _ hv
  ·rw[if_neg hu]at hv⊢;exact hv
theorem RA.GK{H:aa}{φ:aK}{N:Addr→Prop}{w:World}{cs cs':List AV}{v:Value}(hs:lk cs cs')(h:RA H φ N w (.a7 cs) v):RA H φ N w (.a7 cs') v:=by
 cases h with
 |a7 cs vs hl hh=>exact .a7 _ vs (hs.len.symm.trans hl) fun i h1 h2=>hs.ra i (by rw[hs.len];exact h1) h1 (hh i (by rw[hs.len];exact h1) h2)
theorem ag.FZ{P:Program}{f:FuncId}{args:List AV}{H H':aa}{r r':AV}(h:ag P f args H (.ok r) H')(hs:Sub r r'):ag P f args H (.ok r') H':=h.imp fun _ _ _ _ hv=>hs.ra hv
theorem ag.kf{P:Program}{f:FuncId}{args:List AV}{H H':aa}{cs cs':List AV}(h:ag P f args H (.ok (.a7 cs)) H')(hs:lk cs cs'):ag P f args H (.ok (.a7 cs')) H':=h.imp fun _ _ _ _ hv=>hv.GK hs
theorem RA.empty{H:aa}{φ:aK}{N:Addr→Prop}{w:World}{v:Value}(h:RA H φ N w (.d (.list false [])) v):RA H φ N w (.d (.v (.slice none 0 0))) v∨RA H φ N w (.d (.list true [])) v:=by
 cases h with
 |d h=>
  cases h with
  |nil A c hA=>
   cases A with
   |none=>rw[hA rfl];exact .inl (.d (.v _ rfl))
   |some ad=>exact .inr (.d (RD.list true [] ad c 0 (fun _ _=>undef) (Nat.zero_le _) (fun e he=>by simp at he) (fun i j hi=>by simp at hi) (fun i hi=>by simp at hi)))
  |list _ _ ad cap k c hc hk hh hd=>exact .inr (.d (RD.list true [] ad cap k c hc hk hh hd))
theorem ag.oE{P:Program}{f:FuncId}{H H':aa}{res:mv}(pre post:List AV)(h1:ag P f (pre++ .d (.v (.slice none 0 0))::post) H res H')(h2:ag P f (pre++ .d (.list true [])::post) H res H'):ag P f (pre++ .d (.list false [])::post) H res H':=by
 intro φ N w vals hR hA
 have hlt:pre.length<vals.size:=by rw[←hA.1];simp
 have h0:=hA.2 pre.length (by simp) hlt
 simp only[List.getElem_append_right (Nat.le_refl _),Nat.sub_self,List.getElem_cons_zero]at h0
 have go:∀x,RA H φ N w x (vals[pre.length])→p8 H φ N w (pre++x::post) vals:=fun x hx=>by
  refine⟨by rw[←hA.1];simp,fun i g1 g2=>?_⟩
  have h3:=hA.2 i (by simpa using g1) g2
  by_cases hi:i=pre.length
  ·subst hi
   simp only[List.getElem_append_right (Nat.le_refl _),Nat.sub_self,List.getElem_cons_zero]
   exact hx
  ·rcases Nat.lt_or_ge i pre.length with hlt2|hge
   ·rw[List.getElem_append_left hlt2]at h3⊢;exact h3
   ·rw[List.getElem_append_right hge]at h3⊢
    obtain⟨j,hj⟩:∃j,i-pre.length=j+1:=⟨i-pre.length-1,by omega⟩
    simp only[hj,List.getElem_cons_succ]at h3⊢
    exact h3
 rcases RA.empty h0 with h|h
 ·exact h1 φ N w vals hR (go _ h)
 ·exact h2 φ N w vals hR (go _ h)
theorem A2{P:Program}(d:Nat)(t e:TypeId)(h:P.underlying t=some (.slice e))(w:World):(Op.equalIn (d+1) t (.slice none 0 0) (.slice none 0 0)).run P w= .ok true w:=by simp[Op.equalIn,run_underlying h]
theorem xa{P:Program}{t e:TypeId}(hu:P.underlying t=some (.slice e)):bN P .eql t (.slice none 0 0) (.slice none 0 0) (.bool true):=fun x y w=>by
 have hg:(eqGuard .eql t x y (.slice none 0 0) (.slice none 0 0)).run P w= .ok () w:=by simp[eqGuard]
 have he:(Op.equal t (.slice none 0 0) (.slice none 0 0)).run P w= .ok true w:=A2 9999 t e hu w
 rw[Sem.run_bind,hg]
 simp only[Result.andThen_ok,Go.binOp]
 simp[he]
theorem qP{P:Program}{t e:TypeId}(hu:P.underlying t=some (.slice e))(K:Value→Prop):cw P .eql t (.slice none 0 0) (.slice none 0 0) K=K (.bool true):=by
 have h:=xa hu
 have:cw P .eql t (.slice none 0 0) (.slice none 0 0) K=∃r,bN P .eql t (.slice none 0 0) (.slice none 0 0) r∧K r:=by unfold cw;rfl
 rw[this]
 exact propext ⟨fun⟨r',h',k⟩=>by rw[h.inj h'];exact k,fun k=>⟨_,h,k⟩⟩
def B6(I:(Nat→AV)→aa→Prop):aQ:=fun e s H=>match e with| .normal=>I s H|_=>False
theorem vQ(I:(Nat→AV)→aa→Prop)(s:Nat→AV)(H:aa):B6 I .normal s H=I s H:=rfl
attribute [go_sem] vQ
section
variable {P:Program} {hint:Nat→Bool} {n:Nat} {H0:aa} {Q:aQ} {s:Nat→AV} {H:aa}
theorem gw{x y:Code}(I:(Nat→AV)→aa→Prop)(hh:dz hint y=false)(h1:cE P hint n H0 x (B6 I) s H)(h2:∀s H,I s H→cE P hint n H0 y Q s H):cE P hint n H0 x (j1 P hint n H0 y Q) s H:=by
 refine iw x (fun e s H h=>?_) s H h1
 cases e with
 |normal=>rw[cU,hh,gb];exact h2 s H h
 |_=>exact h.elim
theorem eK{x x' y:Code}{b:Bool}(I:(Nat→AV)→aa→Prop)(hh:dz hint y=false)(h1:lJ (some b) (cE P hint n H0 x (B6 I) s H) (cE P hint n H0 x' (B6 I) s H))(h2:∀s H,I s H→cE P hint n H0 y Q s H):
  lJ (some b) (cE P hint n H0 x (j1 P hint n H0 y Q) s H) (cE P hint n H0 x' (j1 P hint n H0 y Q) s H):=by
 cases b
 ·exact gw I hh h1 h2
 ·exact gw I hh h1 h2
theorem gp{x y:Code}{b:Nat}(I:(Nat→AV)→aa→Prop)(hh:dz hint y=false)(h1:cE P hint n H0 x (cZ b (B6 I)) s H)(h2:∀s H,I s H→cE P hint n H0 y Q s H):cE P hint n H0 x (cZ b (j1 P hint n H0 y Q)) s H:=by
 refine iw x (fun e s H h=>?_) s H h1
 cases e with
 |normal=>show j1 P hint n H0 y Q .normal s H;rw[cU,hh,gb];exact h2 s H h
 |exit i=>
  rw[gI]at h⊢
  by_cases hi:i=b
  ·rw[if_pos hi]at h⊢;rw[cU,hh,gb];exact h2 s H h
  ·rw[if_neg hi]at h;exact h.elim
 |_=>exact h.elim
end
section
variable (P:Program) (hint:Nat→Bool) (n:Nat) (y:Code) (m:Nat) (In:aa→Prop) (Ix:AX→aa→Prop) (H Hk:aa) (s:Nat→AV)
def tC:aQ:=fun e s2 H3=>∃s3 H4,ak Hk s2 H3 s3 H4∧H4.length=m∧(match e with| .normal=>In H4| .panic _=>False|e=>Ix e H4)
def Jq:aQ:=fun e s1 H2=>match e with| .normal=>cE P hint n Hk y (tC m In Ix Hk) s1 H2|_=>False
theorem xq:Jq P hint n y m In Ix Hk .normal s H=cE P hint n Hk y (tC m In Ix Hk) s H:=rfl
theorem vk(t:Tmp)(v:AV):iT n s [t] [v]=bp n s (some t) v:=rfl
end
attribute [go_sem] xq vk
@[congr] theorem Kw {P:Program} {hint:Nat→Bool} {n:Nat} {y:Code} {m:Nat} {In:aa→Prop} {Ix:AX→aa→Prop} {Hk:aa} {e:AX} {s:Nat→AV} {H H':aa} (h:nf H=H'):Jq P hint n y m In Ix Hk e s H=Jq P hint n y m In Ix Hk e s H':=by rw[←h];rfl
@[congr] theorem Kg {m:Nat} {In:aa→Prop} {Ix:AX→aa→Prop} {Hk:aa} {e:AX} {s:Nat→AV} {H H':aa} (h:nf H=H'):tC m In Ix Hk e s H=tC m In Ix Hk e s H':=by rw[←h];rfl
theorem tC.cut{m:Nat}{In:aa→Prop}{Ix:AX→aa→Prop}{H ob0:aa}{s:Nat→AV}(dC T:aa){H3:aa}(e:H3=H++(dC++T))(hk:dC.length=ob0.length)(hm:m=(H++ob0).length)(hb:dC.all (ay.below m)=true)
  (hi:In (H++dC)):tC m In Ix (H++ob0) .normal s H3:=by
 subst e
 have hl:(H++dC).length=m:=by rw[hm];simp[hk]
 have hw:=ak.uF (H0:=H++ob0) s (H++(dC++T)) m (by omega) (by rw[←hl];simp) fun i o h1 ho=>by
  rw[←List.append_assoc,List.getElem?_append_left (by omega)]at ho
  rcases Nat.lt_or_ge i H.length with hi|hi
  ·rw[List.getElem?_append_left hi]at ho
   exact .inl (by rw[List.getElem?_append_left hi];exact ho)
  ·rw[List.getElem?_append_right hi]at ho
   rw[List.all_eq_true]at hb
   exact .inr (hb o (List.mem_of_getElem? ho))
 rw[show(H++(dC++T)).take m=H++dC from by rw[←List.append_assoc,←hl,List.take_left]]at hw
 exact⟨_,_,hw,hl,hi⟩
theorem tC.same{m:Nat}{In:aa→Prop}{Ix:AX→aa→Prop}{Hk H3:aa}{s:Nat→AV}(hl:H3.length=m)(hi:In H3):tC m In Ix Hk .normal s H3:=⟨s,H3,.refl _ _,hl,hi⟩
theorem fM{P:Program}{hint:Nat→Bool}{n:Nat}{H0:aa}{g:Operand}{ps:Array Tmp}{x y:Code}{Q:aQ}{s s0:Nat→AV}{H H1:aa}(hint':Nat→Bool){gf:FuncId}{caps:List AV}{xs:List (List AV)}{C:aa→Prop}(I:Nat→aa→Prop)(Ix:AX→aa→Prop)
  (hm:hint 2000000=true) (hm':hint' 2000000=false) (hW:ak H0 s H s0 H1) (hg:ah s0 g= .fn gf caps) (hs:mz P gf caps C xs) (hx:∀v∈xs,v.length=ps.size∧∀u∈v,ga H1.length u=true) (h0:I 0 H1) (hC:∀k Hk,I k Hk→C Hk∧Hk.length=H1.length)
  (round:∀k (hk:k<xs.length) Hk,I k Hk→cE P hint' n Hk x (Jq P hint' n y H1.length (I (k+1)) Ix Hk) (iT n s0 ps.toList (xs[k])) Hk)
  (done:∀Hn,I xs.length Hn→Q .normal s0 Hn) (stop:∀e Hx,Ix e Hx→Q e s0 Hx):cE P hint n H0 (.rangeFunc g ps x y) Q s H:=by
 refine⟨hm,hint',gf,caps,xs,C,I,Ix,s0,H1,hm',hW,hg,hs,fun v hv=>⟨(hx v hv).1,fun u hu=>G1 ((hx v hv).2 u hu)⟩,h0,hC,fun k hk Hk hI=>?_,done,stop⟩
 exact round k hk Hk hI
theorem AT.mono{m m':Nat}{o:ay}(h:AT m o)(hm:m≤m'):AT m' o:=
 ⟨fun e k ver n cs he c hc=>(h.1 e k ver n cs he c hc).mono hm,fun kk es he e hx=>(h.2.1 kk es he e hx).mono hm,fun a b c he=>Nat.lt_of_lt_of_le (h.2.2.1 a b c he) hm,fun r s he t=>(h.2.2.2 r s he t).mono hm⟩
theorem C4{m:Nat}{Hs Hk:aa}{r r':Loop}{s:Nat→AV}(hb:kC m Hk)(hl:Hk.length=m)(hs:∀t,jF m (s t)):∀(i:Nat) (o:ay),(Hk++[ay.lp r' s])[i]?=some o→(Hs++[ay.lp r s])[i]?=some o∨AT (m+1) o:=by
 intro i o h
 right
 rcases pn h with⟨h1,_⟩|⟨_,rfl⟩
 ·exact(hb i o h1).mono (by omega)
 ·exact⟨fun _ _ _ _ _ he=>(by cases he),fun _ _ he=>(by cases he),fun _ _ _ he=>(by cases he),fun _ _ he t=>(by cases he;exact(hs t).mono (by omega))⟩
theorem ak.iter{m:Nat}{Hs Hk T H:aa}{r r':Loop}{s0 s:Nat→AV}(e:H=Hk++([.lp r' s0]++T))(hb:kC m Hk)(hl:Hk.length=m)(hl':Hs.length=m)(hs:∀t,jF m (s0 t)):ak (Hs++[.lp r s0]) s H (fun t=>pZ H (m+1) (s t)) (Hk++[.lp r' s0]):=by
 subst e
 have hlen:(Hk++[ay.lp r' s0]).length=m+1:=by simp[hl]
 have hw:=ak.CS (H0:=Hs++[.lp r s0]) s (Hk++([.lp r' s0]++T)) (m+1) (by simp[hl']) (by simp;omega) fun i o h1 ho=>by
  rw[←List.append_assoc,List.getElem?_append_left (by omega)]at ho
  exact C4 hb hl hs i o ho
 rwa[show(Hk++([ay.lp r' s0]++T)).take (m+1)=Hk++[.lp r' s0]from by rw[←List.append_assoc,←hlen,List.take_left]]at hw
theorem DO(H:aa)(m id:Nat):pZ H m (.gq id)=if id<m then .gq id else .top:=rfl
attribute [go_sem] DO
end Go.Proofs.YtggohfhfocgilaaGreatAw
namespace Go.Proofs.YtggohfhfocgilaaGreat
open Go.Proofs.YtggohfhfocgilaaGreatAw Go.RowKit
namespace CI
abbrev iB(n:Bool)(l:List Int):ay:= .box 23 1 0 1 [.d (.list n (ints l))]
def lj(l:List Int):List (List AV):=l.map fun x=>[iA x]
theorem vT(n:Bool)(l:List Int)(H:aa):ag Tryz.prog 117 [.d (.list n (ints l))] H (.ok (.fn 151 [.ptr H.length 0 0 0])) (H++[iB n l]):=by
 refine ag.ai (hint:=(fun _=>false)) Tryz.func117 (by kernel_rfl) rfl [2] (by kernel_rfl) (by decide) (by simp[Tryz.ntmps117]) ?_
 rw[Tryz.ntmps117]
 simp -implicitDefEqProofs only[↓reduceIte,go_sem,Nat.reduceLT,Nat.reduceEqDiff]
 exact⟨_,ak.refl _ _,by simp -implicitDefEqProofs only[↓reduceIte,go_sem,Nat.reduceLT]⟩
theorem Ba(n:Bool)(l:List Int)(id:Nat)(hl:l.length≤1000000000000):mz Tryz.prog 151 [.ptr id 0 0 0] (fun H=>H[id]?=some (iB n l)) (lj l):=by
 intro r s0 J Jx m Hs h0 hsb hJ hY
 refine oP.ai (hint:=fun t=>t==3000000) Tryz.func151 (by kernel_rfl) rfl [] (by kernel_rfl) (by decide) (by simp[Tryz.ntmps151]) ?_
 rw[Tryz.ntmps151]
 obtain⟨hC0,_,hl0⟩:=hJ 0 Hs h0
 have hx0:(Hs++[ay.lp r s0])[id]?=some (iB n l):=by rw[List.getElem?_append_left (aj hC0)];exact hC0
 simp -implicitDefEqProofs only[↓reduceIte,go_sem,ab,Nat.reduceLT,hx0]
 refine aU (fun k s H'=>∃Hk,J k Hk∧H'=Hk++[.lp r s0]∧s 0= .gq m∧s 5= .d (.list n (ints l))∧s 6=iA l.length∧s 7=iA k) l.length (by omega) (ak.refl _ _) ?_ ?_ ?_
 ·refine⟨Hs,h0,rfl,?_⟩
  simp -implicitDefEqProofs only[↓reduceIte,go_sem,Nat.reduceLT,Nat.reduceEqDiff,reduceCtorEq,ao]
 ·rintro k s H' hk hw ⟨Hk,hJk,rfl,t0,t5,t6,t7⟩
  have hx:=bD l k hk
  obtain⟨hCk,hbk,hlk⟩:=hJ _ _ hJk
  have hi:k<(lj l).length:=by simpa[lj]using hk
  have hxi:(lj l)[k]=[iA l[k]]:=by simp[lj]
  have hYk:=fun T=>hY _ hi Hk T hJk
  rw[hxi]at hYk
  generalize hv:l[k]=v at*
  simp -implicitDefEqProofs only[↓reduceIte,go_sem,Nat.reduceAdd,Nat.reduceLT,Nat.reduceEqDiff,Nat.reduceBEq,reduceCtorEq,t0,t5,t6,t7,hk,hx]
  refine ql.ok (hYk []) ?_
  intro b H' hb
  cases b with
  |true=>
   rw[if_pos rfl]at hb
   obtain⟨Hk',hJk',rfl⟩:=hb
   obtain⟨hCk',hbk',hlk'⟩:=hJ _ _ hJk'
   simp -implicitDefEqProofs only[↓reduceIte,go_sem,Nat.reduceAdd,Nat.reduceLT,Nat.reduceEqDiff,Nat.reduceBEq,t7]
   refine⟨_,_,ak.iter rfl hbk' hlk' hl0 hsb,Hk',hJk',rfl,?_⟩
   simp -implicitDefEqProofs only[↓reduceIte,go_sem,Nat.reduceLT,Nat.reduceEqDiff,reduceCtorEq,t0,t5,t6,hw,Nat.lt_add_one]
  |false=>
   rw[if_neg (by simp)]at hb
   obtain⟨Hk',c,hjx,hbk',hlk',rfl⟩:=hb
   simp -implicitDefEqProofs only[↓reduceIte,go_sem,Nat.reduceLT]
   exact⟨_,_,ak.iter rfl hbk' hlk' hl0 hsb,rfl,.inr ⟨Hk',c,hjx,hlk',rfl⟩⟩
 ·rintro s H' ⟨Hk,hJk,rfl,t0,t5,t6,t7⟩
  obtain⟨hCk,hbk,hlk⟩:=hJ _ _ hJk
  simp -implicitDefEqProofs only[↓reduceIte,go_sem,Nat.reduceLT,t6,t7]
  exact⟨_,_,ak.iter rfl hbk hlk hl0 hsb,rfl,.inl ⟨Hk,by simpa[lj]using hJk,rfl⟩⟩
theorem fX(gf:FuncId)(caps:List AV)(C:aa→Prop)(l:List Int)(H:aa)(hs:mz Tryz.prog gf caps C (lj l))(hC:∀T,C (H++T))(hl:l.length≤1000000000):
  ag Tryz.prog 180 [.d (.v (.slice none 0 0)),.fn gf caps] H (.ok (.sl (H.length+1) l.length 0 l.length)) (H++[.box 23 1 0 1 [.sl (H.length+1) l.length 0 l.length],.arr 3 1 l.length (ints l)]):=by
 refine ag.ai (hint:=(fun t=>t==2000000)) Tryz.func180 (by kernel_rfl) rfl [4] (by kernel_rfl) (by decide) (by simp[Tryz.ntmps180]) ?_
 rw[Tryz.ntmps180]
 simp -implicitDefEqProofs only[↓reduceIte,go_sem,Nat.reduceAdd,Nat.reduceLT,Nat.reduceEqDiff,Nat.reduceBEq]
 refine fM (fun _=>false) (fun k Hk=>Hk=H++[.box 23 1 0 1 [.sl (H.length+1) k 0 k],.arr 3 1 k (ints (l.take k))]) (fun _ _=>False) rfl rfl (ak.df _ _ H.length 23 1 0 1 [.d (.v (.slice none 0 0))] 0 _ 3 1 (by decide) (by simp) rfl rfl) (by simp -implicitDefEqProofs only[↓reduceIte,go_sem,Nat.reduceLT]) hs ?_ ?_ ?_ ?_ ?_ (fun _ _ h=>h.elim)
 ·intro v hv
  obtain⟨u,_,rfl⟩:=List.mem_map.1 hv
  exact⟨rfl,fun w hw=>by rw[List.mem_singleton.1 hw];rfl⟩
 ·simp -implicitDefEqProofs only[go_sem,List.take_zero,jQ]
 ·rintro k _ rfl
  exact⟨hC _,by simp -implicitDefEqProofs only[go_sem,Nat.reduceAdd]⟩
 ·rintro k hk _ rfl
  have hk:k<l.length:=by simpa[lj]using hk
  have e1:ints (l.take (k+1))=ints (l.take k)++[[.v (.int .i64 l[k])]]:=by rw[List.take_succ_eq_append_getElem hk,←c8]
  have hlen:(ints (l.take k)).length=k:=by rw[ao,List.length_take];omega
  have hxi:(lj l)[k]'(by simpa[lj]using hk)=[iA l[k]]:=by simp[lj]
  rw[e1,hxi]
  generalize ints (l.take k)=B at*
  generalize l[k]=v at*
  simp -implicitDefEqProofs only[↓reduceIte,go_sem,ab,aq,Nat.reduceAdd,Nat.reduceLT,Nat.reduceLeDiff,Nat.reduceEqDiff,hlen]
  refine⟨by omega,by omega,?_⟩
  refine tC.cut [.box 23 1 0 1 [.sl (H.length+1) (k+1) 0 (k+1)],.arr 3 1 (k+1) (B++[[.v (.int .i64 v)]])] _ rfl rfl (by simp -implicitDefEqProofs only[go_sem,Nat.reduceAdd]) (by simp -implicitDefEqProofs only[go_sem,Nat.reduceAdd,Nat.reduceLT]) ?_
  rfl
 ·rintro _ rfl
  rw[show(lj l).length=l.length by simp[lj],List.take_length]
  simp -implicitDefEqProofs only[↓reduceIte,go_sem,ab,Nat.reduceAdd,Nat.reduceLT,Nat.reduceEqDiff,Nat.reduceBEq]
  exact⟨_,ak.refl _ _,by simp -implicitDefEqProofs only[↓reduceIte,go_sem,Nat.reduceLT]⟩
theorem mE(gf:FuncId)(caps:List AV)(C:aa→Prop)(l:List Int)(H:aa)(hs:mz Tryz.prog gf caps C (lj l))(hC:∀T,C (H++T))(hl:l.length≤1000000000):
  ag Tryz.prog 149 [.fn gf caps] H (.ok (.sl (H.length+1) l.length 0 l.length)) (H++[.box 23 1 0 1 [.sl (H.length+1) l.length 0 l.length],.arr 3 1 l.length (ints l)]):=by
 refine ag.ai (hint:=(fun _=>false)) Tryz.func149 (by kernel_rfl) rfl [2] (by kernel_rfl) (by decide) (by simp[Tryz.ntmps149]) ?_
 rw[Tryz.ntmps149]
 simp -implicitDefEqProofs only[↓reduceIte,go_sem,Nat.reduceLT,reduceCtorEq]
 refine ae.ok (fX gf caps C l _ hs hC hl) ?_
 simp -implicitDefEqProofs only[↓reduceIte,go_sem,Nat.reduceLT]
 exact⟨_,ak.refl _ _,by simp -implicitDefEqProofs only[↓reduceIte,go_sem,Nat.reduceLT]⟩
theorem vt(gf:FuncId)(caps:List AV)(C:aa→Prop)(l:List Int)(H:aa)(hs:mz Tryz.prog gf caps C (lj l))(hC:∀T,C (H++T))(hl:l.length≤1000000000):
  ag Tryz.prog 116 [.fn gf caps] H (.ok (.sl (H.length+1) l.length 0 l.length)) (H++[.box 23 1 0 1 [.sl (H.length+1) l.length 0 l.length],.arr 3 1 l.length (ints (en l))]):=by
 refine ag.ai (hint:=(fun _=>false)) Tryz.func116 (by kernel_rfl) rfl [2] (by kernel_rfl) (by decide) (by simp[Tryz.ntmps116]) ?_
 rw[Tryz.ntmps116]
 simp -implicitDefEqProofs only[↓reduceIte,go_sem,Nat.reduceLT,reduceCtorEq]
 refine ae.ok (mE gf caps C l _ hs hC hl) ?_
 simp -implicitDefEqProofs only[↓reduceIte,go_sem,Nat.reduceLT]
 refine ae.ok (qH l (H.length+1) l.length _ (by simp -implicitDefEqProofs only[go_sem]) hl) ?_
 simp -implicitDefEqProofs only[↓reduceIte,go_sem,Nat.reduceLT,Nat.reduceEqDiff]
 exact⟨_,ak.refl _ _,by simp -implicitDefEqProofs only[↓reduceIte,go_sem,Nat.reduceLT]⟩
end CI
end Go.Proofs.YtggohfhfocgilaaGreat
namespace Go.Proofs.YtggohfhfocgilaaGreat
open Go.Proofs.YtggohfhfocgilaaGreatAw Go.RowKit
namespace CI
theorem u9{p:Int}:∀{t:List Int},(p::t).Pairwise (·≤·)→((St.pQ jA p t).length=t.length↔(p::t).Nodup)
 |[],_=>by simp[St.pQ]
 |y::t,h=>by
  have ih:=u9 (List.pairwise_cons.1 h).2
  have hl:=St.rT (eq:=jA) p t
  have hl2:=St.rT (eq:=jA) y t
  have hpy:p≤y:=(List.pairwise_cons.1 h).1 y (by simp)
  have hyt:=(List.pairwise_cons.1 (List.pairwise_cons.1 h).2).1
  unfold St.pQ
  by_cases e:y=p
  ·rw[if_pos (by simp[jA,e])]
   constructor
   ·intro g;simp only[List.length_cons]at g;exfalso;omega
   ·intro g;subst e;simp at g
  ·rw[if_neg (by simp[jA,e])]
   rw[List.length_cons,List.length_cons,Nat.add_right_cancel_iff,ih]
   constructor
   ·intro g
    refine List.nodup_cons.2 ⟨?_,g⟩
    intro hm
    rcases List.mem_cons.1 hm with hm|hm
    ·exact e hm.symm
    ·have:=hyt _ hm;omega
   ·exact fun g=>(List.nodup_cons.1 g).2
theorem tp(l:List Int):((St.az jA (en l)).length=l.length)=l.Nodup:=by
 have hp:(en l).Perm l:=List.mergeSort_perm _ _
 have hs:(en l).Pairwise (·≤·):=by
  have:=List.pairwise_mergeSort (le:=fun x y:Int=>decide (x≤y)) (fun a b c h1 h2=>by simp at*;omega) (fun a b=>by simp;omega) l
  exact this.imp fun h=>by simpa using h
 rw[←show(en l).Nodup=l.Nodup from propext hp.nodup_iff,←eP l]
 generalize en l=m at*
 cases m with
 |nil=>simp[St.az]
 |cons p t=>simp only[St.az,List.length_cons,Nat.add_right_cancel_iff];exact propext (u9 hs)
theorem qa(H:aa)(id ver:Nat)(L:List Int)(ho:H[id]?=some (.arr 3 1 ver (ints L)))(hbig:L.length≤100000000000):
  ag Tryz.prog 115 [.sl id ver 0 L.length] H (.ok (.sl id ver 0 (St.az jA L).length)) (ia H id ver jA L):=by
 have h:=iL H id ver (aj ho) L.length hbig L rfl
 have e:aH H id ver L=H:=by
  unfold aH
  obtain⟨hl,hx⟩:=List.getElem?_eq_some_iff.1 ho
  have e2:(L.map eI)=ints L:=rfl
  rw[e2,←hx];exact List.set_getElem_self hl
 rwa[e]at h
theorem qM(n:Bool)(l:List Int)(H:aa)(hl:l.length≤1000000000):ag Tryz.prog 72 [.d (.list n (ints l))] H (.ok (bA (decide l.Nodup))) H:=by
 refine ag.ai (hint:=(fun _=>false)) Tryz.func72 (by kernel_rfl) rfl [2] (by kernel_rfl) (by decide) (by simp[Tryz.ntmps72]) ?_
 rw[Tryz.ntmps72]
 simp -implicitDefEqProofs only[↓reduceIte,go_sem,Nat.reduceLT,reduceCtorEq]
 refine ae.ok (vT n l H) ?_
 simp -implicitDefEqProofs only[↓reduceIte,go_sem,Nat.reduceLT]
 refine ae.ok (vt _ _ _ l _ (Ba n l H.length (by omega)) (fun T=>by simp -implicitDefEqProofs only[go_sem]) hl) ?_
 simp -implicitDefEqProofs only[↓reduceIte,go_sem,Nat.reduceLT]
 have hq:=eP l
 have hcf:=tp l
 have hcd:=fun(T:aa) (id:Nat) ho=>qa T id l.length (en l) ho (by omega)
 rw[hq]at hcd
 refine ae.ok (hcd _ (H.length+2) (by simp -implicitDefEqProofs only[go_sem])) ?_
 unfold ia
 generalize St.az jA (en l)=q at*
 simp -implicitDefEqProofs only[↓reduceIte,go_sem,Nat.reduceLT,Nat.reduceEqDiff,reduceCtorEq,ao]
 refine an.ret ?_
 simp -implicitDefEqProofs only[↓reduceIte,go_sem,Nat.reduceLT,←hcf,show((q.length:Int)=(l.length:Int))=(q.length=l.length)from propext Int.ofNat_inj]
end CI
end Go.Proofs.YtggohfhfocgilaaGreat
namespace Go.Proofs.YtggohfhfocgilaaGreat
open Go.Proofs.YtggohfhfocgilaaGreatAw Go.RowKit
abbrev du(n:Nat):AV:= .d (.v (.int .u64 n))
theorem p8.closed{H:aa}{φ:aK}{N:Addr→Prop}{w:World}{vals:Array Value}(vs:List Value)(h:p8 H φ N w (vs.map fun v=> .d (.v v)) vals):vals=vs.toArray:=by
 obtain⟨hl,hh⟩:=h
 simp only[List.length_map]at hl
 apply Array.ext
 ·simpa using hl.symm
 ·intro i h1 h2
  have:=hh i (by simpa using h2) h1
  simp only[List.getElem_map]at this
  simpa using this.closed
def dy(less more:Bool):Int:=if less then -1 else if more then 1 else 0
def ff(a b:Int):Int:=dy (decide (a<b)) (decide (b<a))
def nx(a b:ByteArray):Bool:=Op.bytesLess a.toList b.toList
def mU(a b:ByteArray):Int:=dy (nx a b) (!(nx a b||a.toList==b.toList))
def vX(b:Nat):Bool:=decide (9218868437227405312<b%9223372036854775808)
def ew(b:Nat):Nat:=if vX b then 9221120237041090560 else b
def gT(b:Nat):Nat:=if 9223372036854775808≤ew b then 18446744073709551615-ew b else ew b+9223372036854775808
def wh(n:Int):Nat:=(n%18446744073709551616).toNat
def yt(a b:Nat):Int:=dy (decide (gT a<gT b)) (decide (gT b<gT a))
def aO(a b:al):Int:=if a.kind≠b.kind then ff a.kind b.kind else if a.kind=1 then ff a.i b.i else if a.kind=2 then yt (wh a.i) (wh b.i)else if a.kind=3 then mU a.s b.s else 0
theorem kW(n:Int):wh n<18446744073709551616:=by unfold wh;omega
theorem mc(n:Int):IntKind.u64.wrap n=((wh n:Nat):Int):=by
 unfold wh
 rw[Int.toNat_of_nonneg (Int.emod_nonneg _ (by omega))]
 simp[IntKind.wrap,IntKind.signed,IntKind.bits]
theorem m3(b:Nat)(h:b<18446744073709551616):ew b<18446744073709551616:=by unfold ew;split<;>omega
theorem D4(b:Nat)(h:b<18446744073709551616):gT b<18446744073709551616:=by
 have:=m3 b h
 unfold gT;split<;>omega
theorem jZ(a:Int)(H:aa):ag Tryz.prog 222 [iA a] H (.ok (bA false)) H:=by
 refine ag.ai (hint:=(fun _=>false)) Tryz.func222 (by kernel_rfl) rfl [2] (by kernel_rfl) (by decide) (by simp[Tryz.ntmps222]) ?_
 rw[Tryz.ntmps222]
 simp -implicitDefEqProofs only[↓reduceIte,go_sem,Nat.reduceLT,Nat.reduceEqDiff,reduceCtorEq]
 refine an.aI ?_
 simp -implicitDefEqProofs only[↓reduceIte,go_sem,Nat.reduceLT]
theorem ij(a:Int)(H:aa):ag Tryz.prog 223 [iA a] H (.ok (bA false)) H:=by
 refine ag.ai (hint:=(fun _=>false)) Tryz.func223 (by kernel_rfl) rfl [2] (by kernel_rfl) (by decide) (by simp[Tryz.ntmps223]) ?_
 rw[Tryz.ntmps223]
 simp -implicitDefEqProofs only[↓reduceIte,go_sem,Nat.reduceLT,Nat.reduceEqDiff,reduceCtorEq]
 refine an.aI ?_
 simp -implicitDefEqProofs only[↓reduceIte,go_sem,Nat.reduceLT]
theorem gP(a:ByteArray)(H:aa):ag Tryz.prog 224 [sA a] H (.ok (bA false)) H:=by
 refine ag.ai (hint:=(fun _=>false)) Tryz.func224 (by kernel_rfl) rfl [2] (by kernel_rfl) (by decide) (by simp[Tryz.ntmps224]) ?_
 rw[Tryz.ntmps224]
 simp -implicitDefEqProofs only[↓reduceIte,go_sem,Nat.reduceLT,Nat.reduceEqDiff,reduceCtorEq]
 refine an.aI ?_
 simp -implicitDefEqProofs only[↓reduceIte,go_sem,Nat.reduceLT]
theorem tr(a b:Int)(H:aa):ag Tryz.prog 185 [iA a,iA b] H (.ok (iA (ff a b))) H:=by
 refine ag.ai (hint:=(fun _=>false)) Tryz.func185 (by kernel_rfl) rfl [4] (by kernel_rfl) (by decide) (by simp[Tryz.ntmps185]) ?_
 rw[Tryz.ntmps185]
 simp -implicitDefEqProofs only[↓reduceIte,go_sem,Nat.reduceLT,Int.reduceNeg,reduceCtorEq]
 refine ae.ok (jZ a H) ?_
 simp -implicitDefEqProofs only[↓reduceIte,go_sem,Nat.reduceLT,Nat.reduceEqDiff,Int.reduceNeg]
 refine ae.ok (jZ b H) ?_
 simp -implicitDefEqProofs only[↓reduceIte,go_sem,Nat.reduceLT,Nat.reduceEqDiff,Int.reduceNeg,reduceCtorEq]
 by_cases h:a<b
 ·refine cT (by simp -implicitDefEqProofs only[go_sem,h]) ?_
  simp -implicitDefEqProofs only[go_sem,Int.reduceNeg]
  refine an.aI ?_
  simp -implicitDefEqProofs only[↓reduceIte,go_sem,Nat.reduceLT,Int.reduceNeg,ff,dy,h]
 ·refine cO (by simp -implicitDefEqProofs only[go_sem,h]) ?_
  simp -implicitDefEqProofs only[↓reduceIte,go_sem,Nat.reduceLT,Nat.reduceEqDiff,reduceCtorEq]
  by_cases h2:b<a
  ·refine cT (by simp -implicitDefEqProofs only[go_sem,h2]) ?_
   simp -implicitDefEqProofs only[go_sem]
   refine an.aI ?_
   simp -implicitDefEqProofs only[↓reduceIte,go_sem,Nat.reduceLT,reduceCtorEq,ff,dy,h,h2]
  ·refine cO (by simp -implicitDefEqProofs only[go_sem,h2]) ?_
   simp -implicitDefEqProofs only[go_sem]
   refine an.aI ?_
   simp -implicitDefEqProofs only[↓reduceIte,go_sem,Nat.reduceLT,reduceCtorEq,ff,dy,h,h2]
theorem p6(a b:Int)(H:aa):ag Tryz.prog 186 [iA a,iA b] H (.ok (iA (ff a b))) H:=by
 refine ag.ai (hint:=(fun _=>false)) Tryz.func186 (by kernel_rfl) rfl [4] (by kernel_rfl) (by decide) (by simp[Tryz.ntmps186]) ?_
 rw[Tryz.ntmps186]
 simp -implicitDefEqProofs only[↓reduceIte,go_sem,Nat.reduceLT,Int.reduceNeg,reduceCtorEq]
 refine ae.ok (ij a H) ?_
 simp -implicitDefEqProofs only[↓reduceIte,go_sem,Nat.reduceLT,Nat.reduceEqDiff,Int.reduceNeg]
 refine ae.ok (ij b H) ?_
 simp -implicitDefEqProofs only[↓reduceIte,go_sem,Nat.reduceLT,Nat.reduceEqDiff,Int.reduceNeg,reduceCtorEq]
 by_cases h:a<b
 ·refine cT (by simp -implicitDefEqProofs only[go_sem,h]) ?_
  simp -implicitDefEqProofs only[go_sem,Int.reduceNeg]
  refine an.aI ?_
  simp -implicitDefEqProofs only[↓reduceIte,go_sem,Nat.reduceLT,Int.reduceNeg,ff,dy,h]
 ·refine cO (by simp -implicitDefEqProofs only[go_sem,h]) ?_
  simp -implicitDefEqProofs only[↓reduceIte,go_sem,Nat.reduceLT,Nat.reduceEqDiff,reduceCtorEq]
  by_cases h2:b<a
  ·refine cT (by simp -implicitDefEqProofs only[go_sem,h2]) ?_
   simp -implicitDefEqProofs only[go_sem]
   refine an.aI ?_
   simp -implicitDefEqProofs only[↓reduceIte,go_sem,Nat.reduceLT,reduceCtorEq,ff,dy,h,h2]
  ·refine cO (by simp -implicitDefEqProofs only[go_sem,h2]) ?_
   simp -implicitDefEqProofs only[go_sem]
   refine an.aI ?_
   simp -implicitDefEqProofs only[↓reduceIte,go_sem,Nat.reduceLT,reduceCtorEq,ff,dy,h,h2]
theorem nY(a b:ByteArray)(H:aa):ag Tryz.prog 188 [sA a,sA b] H (.ok (iA (mU a b))) H:=by
 refine ag.ai (hint:=(fun _=>false)) Tryz.func188 (by kernel_rfl) rfl [4] (by kernel_rfl) (by decide) (by simp[Tryz.ntmps188]) ?_
 rw[Tryz.ntmps188]
 simp -implicitDefEqProofs only[↓reduceIte,go_sem,Nat.reduceLT,Int.reduceNeg,reduceCtorEq]
 refine ae.ok (gP a H) ?_
 simp -implicitDefEqProofs only[↓reduceIte,go_sem,Nat.reduceLT,Nat.reduceEqDiff,Int.reduceNeg]
 refine ae.ok (gP b H) ?_
 simp -implicitDefEqProofs only[↓reduceIte,go_sem,Nat.reduceLT,Nat.reduceEqDiff,Int.reduceNeg,reduceCtorEq]
 cases h:Op.bytesLess a.toList b.toList with
 |true=>
  refine cT (by simp -implicitDefEqProofs only[go_sem]) ?_
  simp -implicitDefEqProofs only[go_sem,Int.reduceNeg]
  refine an.aI ?_
  simp -implicitDefEqProofs only[↓reduceIte,go_sem,Nat.reduceLT,Int.reduceNeg,mU,dy,nx,h]
 |false=>
  refine cO (by simp -implicitDefEqProofs only[go_sem]) ?_
  simp -implicitDefEqProofs only[↓reduceIte,go_sem,Nat.reduceLT,Nat.reduceEqDiff,reduceCtorEq,h]
  cases h2:(a.toList==b.toList)with
  |false=>
   refine cT (by simp -implicitDefEqProofs only[go_sem]) ?_
   simp -implicitDefEqProofs only[go_sem]
   refine an.aI ?_
   simp -implicitDefEqProofs only[↓reduceIte,go_sem,Nat.reduceLT,reduceCtorEq,mU,dy,nx,h,h2]
  |true=>
   refine cO (by simp -implicitDefEqProofs only[go_sem]) ?_
   simp -implicitDefEqProofs only[go_sem]
   refine an.aI ?_
   simp -implicitDefEqProofs only[↓reduceIte,go_sem,Nat.reduceLT,reduceCtorEq,mU,dy,nx,h,h2]
theorem wN(b:Nat)(hb:b<18446744073709551616):(FloatKind.f64.format.order b b !=some .eq)=vX b:=by
 have key:∀d:Ieee.Datum,(d.order d !=some .eq)=d.isNaN:=by
  intro d
  cases d with
  |nan s f=>rfl
  |infinity s=>simp[Ieee.Datum.order,Ieee.Datum.isNaN]
  |number s m i=>simp[Ieee.Datum.order,Ieee.Datum.isNaN]
 have h1:(FloatKind.f64.format.order b b !=some .eq)=(FloatKind.f64.format.read b).isNaN:=key _
 rw[h1]
 have hs:FloatKind.f64.format.signWeight=9223372036854775808:=by decide
 have hb':FloatKind.f64.format.binade=4503599627370496:=by decide
 have hi:FloatKind.f64.format.infRung=9218868437227405312:=by decide
 unfold Ieee.Format.read vX
 rw[hs,hb',hi]
 generalize b%9223372036854775808=r
 by_cases h1:r<4503599627370496
 ·simp only[h1,if_true,Ieee.Datum.isNaN];simp;omega
 ·by_cases h2:r<9218868437227405312
  ·simp only[h1,h2,if_true,if_false,Ieee.Datum.isNaN];simp;omega
  ·by_cases h3:r=9218868437227405312
   ·subst h3;simp[Ieee.Datum.isNaN]
   ·simp only[h1,h2,h3,if_false,Ieee.Datum.isNaN];simp;omega
def qc:Array Value→Sem Value:=Extern.MathFloatBits.float64frombits
theorem qg(n:Nat)(H:aa):ag Tryz.prog 210 [du n] H (.ok (.d (.v (.float .f64 n)))) H:=by
 intro φ N w vals hR hA
 have hv:=p8.closed [.int .u64 (n:Int)] hA
 subst hv
 refine .inr ⟨.float .f64 n,w,?_,φ,N,hR,au.refl,.d (.v _ rfl)⟩
 rw[run_callFunc_extern (e:=qc) Tryz.func210 (by kernel_rfl) (by kernel_rfl) (by kernel_rfl) (by kernel_rfl)]
 rfl
theorem nj(b:Nat)(hb:b<18446744073709551616)(H:aa):ag Tryz.prog 179 [du b] H (.ok (du (ew b))) H:=by
 refine ag.ai (hint:=(fun _=>false)) Tryz.func179 (by kernel_rfl) rfl [2] (by kernel_rfl) (by decide) (by simp[Tryz.ntmps179]) ?_
 rw[Tryz.ntmps179]
 simp -implicitDefEqProofs only[↓reduceIte,go_sem,Nat.reduceLT,reduceCtorEq]
 refine ae.ok (qg b H) ?_
 simp -implicitDefEqProofs only[↓reduceIte,go_sem,Nat.reduceLT,Nat.reduceEqDiff,wN b hb]
 cases h:vX b with
 |true=>
  refine cT (by simp -implicitDefEqProofs only[go_sem]) ?_
  simp -implicitDefEqProofs only[go_sem]
  refine an.aI ?_
  simp -implicitDefEqProofs only[↓reduceIte,go_sem,Nat.reduceLT,ew,h,du]
 |false=>
  refine cO (by simp -implicitDefEqProofs only[go_sem]) ?_
  simp -implicitDefEqProofs only[↓reduceIte,go_sem,Nat.reduceLT,reduceCtorEq]
  refine an.aI ?_
  simp -implicitDefEqProofs only[↓reduceIte,go_sem,Nat.reduceLT,ew,h,Bool.false_eq_true]
theorem Ih(c:Nat)(h:c<9223372036854775808):IntKind.u64.wrap (G8 .u64 (c:Int) 9223372036854775808)=((c+9223372036854775808:Nat):Int):=by
 have e:=bits_or_u64_nat c 9223372036854775808 (by omega) (by omega)
 have:c|||9223372036854775808=c+9223372036854775808:=by
  have:=Nat.two_pow_add_eq_or_of_lt (i:=63) (b:=c) (by omega) 1
  rw[Nat.or_comm]
  simpa[Nat.add_comm]using this.symm
 rw[this]at e
 exact e
theorem JT(c:Nat)(h:c<18446744073709551616):IntKind.u64.wrap (HE .u64 (c:Int))=((18446744073709551615-c:Nat):Int):=by
 have e:=bits_xor_u64_nat 18446744073709551615 c (by omega) h
 have:18446744073709551615^^^c=18446744073709551615-c:=by
  rw[Nat.xor_comm]
  have:=Nat.testBit_two_pow_sub_succ (x:=c) (n:=64) h
  apply Nat.eq_of_testBit_eq
  intro i
  rw[Nat.testBit_xor]
  have h2:=this i
  rw[show 2^64-(c+1)=18446744073709551615-c from by omega]at h2
  rw[h2]
  have h3:(18446744073709551615:Nat).testBit i=decide (i<64):=by
   have:=Nat.testBit_two_pow_sub_one 64 i
   simpa using this
  rw[h3]
  by_cases hi:i<64
  ·simp[hi]
  ·have h5:2^64≤2^i:=Nat.pow_le_pow_right (by omega) (by omega)
   have:c.testBit i=false:=Nat.testBit_lt_two_pow (by omega)
   simp[hi,this]
 rw[this]at e
 exact e
theorem mL(b:Nat)(hb:b<18446744073709551616)(H:aa):ag Tryz.prog 166 [du b] H (.ok (du (gT b))) H:=by
 have hc:=m3 b hb
 have k1:=nj b hb H
 unfold gT
 generalize ew b=c at hc k1⊢
 refine ag.ai (hint:=(fun _=>false)) Tryz.func166 (by kernel_rfl) rfl [2] (by kernel_rfl) (by decide) (by simp[Tryz.ntmps166]) ?_
 rw[Tryz.ntmps166]
 simp -implicitDefEqProofs only[↓reduceIte,go_sem,Nat.reduceLT,reduceCtorEq]
 refine ae.ok k1 ?_
 simp -implicitDefEqProofs only[↓reduceIte,go_sem,Nat.reduceLT]
 by_cases h:9223372036854775808≤c
 ·simp -implicitDefEqProofs only[↓reduceIte,go_sem,Nat.reduceLT,reduceCtorEq,show(9223372036854775808:Int)≤c from by omega,JT c hc]
  refine an.aI ?_
  simp -implicitDefEqProofs only[↓reduceIte,go_sem,Nat.reduceLT,h,du]
 ·simp -implicitDefEqProofs only[↓reduceIte,go_sem,Nat.reduceLT,reduceCtorEq,show ¬(9223372036854775808:Int)≤c from by omega,Ih c (by omega)]
  refine an.aI ?_
  simp -implicitDefEqProofs only[↓reduceIte,go_sem,Nat.reduceLT,h,du]
theorem BG(a b:Nat)(ha:a<18446744073709551616)(hb:b<18446744073709551616)(H:aa):ag Tryz.prog 187 [du a,du b] H (.ok (iA (yt a b))) H:=by
 have k1:=mL a ha H
 have k2:=mL b hb H
 unfold yt
 generalize gT a=x at k1⊢
 generalize gT b=y at k2⊢
 refine ag.ai (hint:=(fun _=>false)) Tryz.func187 (by kernel_rfl) rfl [4] (by kernel_rfl) (by decide) (by simp[Tryz.ntmps187]) ?_
 rw[Tryz.ntmps187]
 simp -implicitDefEqProofs only[↓reduceIte,go_sem,Nat.reduceLT,Int.reduceNeg,reduceCtorEq]
 refine ae.ok k1 ?_
 simp -implicitDefEqProofs only[↓reduceIte,go_sem,Nat.reduceLT,Nat.reduceEqDiff]
 refine ae.ok k2 ?_
 simp -implicitDefEqProofs only[↓reduceIte,go_sem,Nat.reduceLT,Nat.reduceEqDiff,Int.reduceNeg]
 by_cases h:x<y
 ·refine cT (by simp -implicitDefEqProofs only[go_sem,h]) ?_
  simp -implicitDefEqProofs only[go_sem,Int.reduceNeg]
  refine an.aI ?_
  simp -implicitDefEqProofs only[↓reduceIte,go_sem,Nat.reduceLT,Int.reduceNeg,dy,h]
 ·refine cO (by simp -implicitDefEqProofs only[go_sem,h]) ?_
  simp -implicitDefEqProofs only[↓reduceIte,go_sem,Nat.reduceLT,Nat.reduceEqDiff]
  by_cases h2:y<x
  ·refine cT (by simp -implicitDefEqProofs only[go_sem,h2]) ?_
   simp -implicitDefEqProofs only[go_sem]
   refine an.aI ?_
   simp -implicitDefEqProofs only[↓reduceIte,go_sem,Nat.reduceLT,reduceCtorEq,dy,h,h2]
  ·refine cO (by simp -implicitDefEqProofs only[go_sem,h2]) ?_
   simp -implicitDefEqProofs only[go_sem]
   refine an.aI ?_
   simp -implicitDefEqProofs only[↓reduceIte,go_sem,Nat.reduceLT,reduceCtorEq,dy,h,h2]
abbrev al.av(v:al):AV:= .agg [iA v.kind,iA v.i,sA v.s]
theorem cF(a b:al)(H:aa):ag Tryz.prog 154 [a.av,b.av] H (.ok (iA (aO a b))) H:=by
 unfold aO
 refine ag.ai (hint:=(fun _=>false)) Tryz.func154 (by kernel_rfl) rfl [4] (by kernel_rfl) (by decide) (by simp[Tryz.ntmps154]) ?_
 rw[Tryz.ntmps154]
 simp -implicitDefEqProofs only[↓reduceIte,go_sem,ab,Nat.reduceAdd,Nat.reduceLT,Nat.reduceLeDiff,Nat.reduceEqDiff]
 by_cases h:a.kind=b.kind
 ·refine cO (by simp -implicitDefEqProofs only[go_sem,h]) ?_
  simp -implicitDefEqProofs only[↓reduceIte,go_sem,ab,Nat.reduceAdd,Nat.reduceLT,Nat.reduceLeDiff,Nat.reduceEqDiff]
  by_cases h1:a.kind=1
  ·refine cT (by simp -implicitDefEqProofs only[go_sem,h1]) ?_
   simp -implicitDefEqProofs only[↓reduceIte,go_sem,ab,Nat.reduceAdd,Nat.reduceLT,Nat.reduceLeDiff,Nat.reduceEqDiff]
   refine ae.ok (p6 _ _ _) ?_
   simp -implicitDefEqProofs only[↓reduceIte,go_sem,Nat.reduceLT]
   refine an.ret ?_
   simp -implicitDefEqProofs only[↓reduceIte,go_sem,Nat.reduceLT,h1,←h]
  ·refine cO (by simp -implicitDefEqProofs only[go_sem,h1]) ?_
   simp -implicitDefEqProofs only[↓reduceIte,go_sem,Nat.reduceLT,Nat.reduceEqDiff]
   by_cases h2:a.kind=2
   ·refine cT (by simp -implicitDefEqProofs only[go_sem,h2]) ?_
    simp -implicitDefEqProofs only[↓reduceIte,go_sem,ab,Nat.reduceAdd,Nat.reduceLT,Nat.reduceLeDiff,Nat.reduceEqDiff,mc]
    refine ae.ok (BG _ _ (kW _) (kW _) _) ?_
    simp -implicitDefEqProofs only[↓reduceIte,go_sem,Nat.reduceLT]
    refine an.ret ?_
    simp -implicitDefEqProofs only[↓reduceIte,go_sem,Nat.reduceLT,Int.reduceEq,h2,←h]
   ·refine cO (by simp -implicitDefEqProofs only[go_sem,h2]) ?_
    simp -implicitDefEqProofs only[↓reduceIte,go_sem,Nat.reduceLT,Nat.reduceEqDiff]
    by_cases h3:a.kind=3
    ·refine cT (by simp -implicitDefEqProofs only[go_sem,h3]) ?_
     simp -implicitDefEqProofs only[↓reduceIte,go_sem,ab,Nat.reduceAdd,Nat.reduceLT,Nat.reduceEqDiff]
     refine ae.ok (nY _ _ _) ?_
     simp -implicitDefEqProofs only[↓reduceIte,go_sem,Nat.reduceLT]
     refine an.ret ?_
     simp -implicitDefEqProofs only[↓reduceIte,go_sem,Nat.reduceLT,Int.reduceEq,h3,←h]
    ·refine cO (by simp -implicitDefEqProofs only[go_sem,h3]) ?_
     simp -implicitDefEqProofs only[go_sem]
     refine an.ret ?_
     simp -implicitDefEqProofs only[↓reduceIte,go_sem,Nat.reduceLT,h1,h2,h3,←h]
 ·refine cT (by simp -implicitDefEqProofs only[go_sem,h]) ?_
  simp -implicitDefEqProofs only[↓reduceIte,go_sem,ab,Nat.reduceAdd,Nat.reduceLT,Nat.reduceLeDiff,Nat.reduceEqDiff]
  refine ae.ok (tr _ _ _) ?_
  simp -implicitDefEqProofs only[↓reduceIte,go_sem,Nat.reduceLT]
  refine an.ret ?_
  simp -implicitDefEqProofs only[↓reduceIte,go_sem,Nat.reduceLT,h]
def kD{α:Type}(p:α→Bool)(l:List α):Int:=if l.any p then(l.findIdx p:Nat)else -1
theorem oS{α:Type}{p:α→Bool}{l:List α}{k:Nat}(h:∀i (hi:i<k) (hl:i<l.length),p l[i]=false)(hk:k<l.length)(hp:p l[k]=true):kD p l=k:=by
 unfold kD
 rw[if_pos (List.any_eq_true.2 ⟨l[k],List.getElem_mem hk,hp⟩)]
 congr 1
 exact(List.findIdx_eq hk).2 ⟨hp,fun j hj=>h j hj (by omega)⟩
theorem any_none{α:Type}{p:α→Bool}{l:List α}(h:∀i (hi:i<l.length),p l[i]=false):l.any p=false:=by
 rw[List.any_eq_false]
 intro x hx
 obtain⟨i,hi,rfl⟩:=List.mem_iff_getElem.1 hx
 simp[h i hi]
theorem zh{α:Type}{p:α→Bool}{l:List α}{k:Nat}(hk:k<l.length)(h:p l[k]=true):l.any p=true:=List.any_eq_true.2 ⟨l[k],List.getElem_mem hk,h⟩
theorem m5{α:Type}{p:α→Bool}{l:List α}(h:∀i (hi:i<l.length),p l[i]=false):kD p l=-1:=by
 unfold kD
 rw[any_none h]
 rfl
theorem pD{α:Type}(p:α→Bool)(l:List α):(0≤kD p l)=(l.any p=true):=by
 unfold kD
 cases h:l.any p with
 |true=>simp
 |false=>simp
theorem nE(l:List al)(p:al→Bool)(g:FuncId)(caps:List AV)(n1:Bool)(H:aa)(hl:l.length≤9223372036854775807)(hf:∀v∈l,ag Tryz.prog g ([v.av]++caps) H (.ok (bA (p v))) H):
  ag Tryz.prog 178 [.d (.list n1 (l.map al.enc)),.fn g caps] H (.ok (iA (kD p l))) H:=by
 refine ag.ai (hint:=(fun _=>false)) Tryz.func178 (by kernel_rfl) rfl [4] (by kernel_rfl) (by decide) (by simp[Tryz.ntmps178]) ?_
 rw[Tryz.ntmps178]
 simp -implicitDefEqProofs only[↓reduceIte,go_sem,Nat.reduceLT,Int.reduceNeg,reduceCtorEq]
 refine aU (fun k s H'=>H'=H∧(∀i (hi:i<k) (hl:i<l.length),p l[i]=false)∧s 0= .d (.list n1 (l.map al.enc))∧s 1= .fn g caps∧s 7=iA l.length∧s 8=iA k) l.length hl (ak.refl _ _) ?_ ?_ ?_
 ·refine⟨rfl,fun i hi=>by omega,?_⟩
  simp -implicitDefEqProofs only[↓reduceIte,go_sem,Nat.reduceLT,Nat.reduceEqDiff,reduceCtorEq]
 ·rintro k s H' hk hw ⟨rfl,hp,h0,h1,h7,h8⟩
  have hx:=List.getElem?_eq_getElem hk
  have hit:p l[k]=true→kD p l=k:=fun h=>oS hp hk h
  have hpp:p l[k]=false→∀i (hi:i<k+1) (hl:i<l.length),p l[i]=false:=fun h0 i hi hl'=>by
   rcases Nat.lt_or_ge i k with h|h
   ·exact hp i h hl'
   ·obtain rfl:i=k:=by omega
    exact h0
  have hfk:=hf l[k] (List.getElem_mem hk)
  generalize l[k]=v at hx hit hpp hfk
  simp -implicitDefEqProofs only[↓reduceIte,go_sem,Nat.reduceAdd,Nat.reduceLT,Nat.reduceEqDiff,reduceCtorEq,h0,h1,h7,h8,hk,hx,al.enc]
  refine ae.ok hfk ?_
  cases hv:p v with
  |true=>
   simp -implicitDefEqProofs only[↓reduceIte,go_sem,Nat.reduceLT,Nat.reduceEqDiff]
   refine an.aI ?_
   simp -implicitDefEqProofs only[↓reduceIte,go_sem,Nat.reduceLT,hit hv]
  |false=>
   simp -implicitDefEqProofs only[↓reduceIte,go_sem,Nat.reduceLT,Nat.reduceEqDiff,h8]
   refine cl.same ⟨rfl,hpp hv,?_⟩
   simp -implicitDefEqProofs only[↓reduceIte,go_sem,Nat.reduceLT,Nat.reduceEqDiff,reduceCtorEq,h0,h1,h7,hw]
 ·rintro s H' ⟨rfl,hp,h0,h1,h7,h8⟩
  simp -implicitDefEqProofs only[↓reduceIte,go_sem,Nat.reduceLT,Int.reduceNeg,h7,h8]
  refine an.aI ?_
  simp -implicitDefEqProofs only[↓reduceIte,go_sem,Nat.reduceLT,Int.reduceNeg,m5 fun i hi=>hp i hi hi]
theorem gl(l:List al)(p:al→Bool)(g:FuncId)(caps:List AV)(n1:Bool)(H:aa)(hl:l.length≤9223372036854775807)(hf:∀v∈l,ag Tryz.prog g ([v.av]++caps) H (.ok (bA (p v))) H):
  ag Tryz.prog 146 [.d (.list n1 (l.map al.enc)),.fn g caps] H (.ok (bA (l.any p))) H:=by
 refine ag.ai (hint:=(fun _=>false)) Tryz.func146 (by kernel_rfl) rfl [4] (by kernel_rfl) (by decide) (by simp[Tryz.ntmps146]) ?_
 rw[Tryz.ntmps146]
 simp -implicitDefEqProofs only[↓reduceIte,go_sem,Nat.reduceLT,Nat.reduceEqDiff,reduceCtorEq]
 refine ae.ok (nE l p g caps n1 H hl hf) ?_
 simp -implicitDefEqProofs only[↓reduceIte,go_sem,Nat.reduceLT,pD]
 refine an.aI ?_
 simp -implicitDefEqProofs only[↓reduceIte,go_sem,Nat.reduceLT,Bool.decide_eq_true]
def jE:ByteArray:=⟨#[]⟩
theorem AL(v:al):lQ v.kind v.i v.s 0 0 jE=decide (v=⟨0,0,jE⟩):=ov v ⟨0,0,jE⟩
theorem lz:jE.toList=[]:=by rw[ByteArray.toList_eq];rfl
theorem nV(s:ByteArray):s.toList=[]↔s=jE:=⟨fun h=>toList_inj (by rw[h,lz]),fun h=>by rw[h];exact lz⟩
theorem CT(v:al)(h0:v.kind=0):(v=⟨0,0,jE⟩)=(v.i=0∧v.s.toList=[]):=by
 cases v with|mk k i s=>
 simp only at h0
 subst h0
 simp[nV]
def fo(v:al):Bool:=if v.kind=2 then decide (wh v.i=ew (wh v.i))&&decide (v.s.toList=[])else if v.kind=1 then decide (v.s.toList=[])else if v.kind=3 then decide (v.i=0)&&decide (v.s.size≤1024)else if v.kind=0 then decide (v.i=0)&&decide (v.s.toList=[])else false
theorem fK(v:al)(H:aa):ag Tryz.prog 148 [v.av] H (.ok (bA (fo v))) H:=by
 have e0:∀x:ByteArray,(x.toList==(⟨#[]⟩:ByteArray).toList)=decide (x.toList=[]):=fun x=>by
  rw[show(⟨#[]⟩:ByteArray).toList=[]from lz];rw[Bool.eq_iff_iff];simp
 refine ag.ai (hint:=(fun _=>false)) Tryz.func148 (by kernel_rfl) rfl [2] (by kernel_rfl) (by decide) (by simp[Tryz.ntmps148]) ?_
 rw[Tryz.ntmps148]
 by_cases h2:v.kind=2
 ·simp -implicitDefEqProofs only[↓reduceIte,go_sem,ab,Nat.reduceAdd,Nat.reduceLT,Nat.reduceLeDiff,Nat.reduceEqDiff,h2]
  refine aF K.mixed (by kernel_rfl) ?_
  simp -implicitDefEqProofs only[↓reduceIte,go_sem,ab,Nat.reduceAdd,Nat.reduceLT,Nat.reduceLeDiff,Nat.reduceEqDiff,mc]
  refine ae.ok (nj _ (kW _) _) ?_
  simp -implicitDefEqProofs only[↓reduceIte,go_sem,Nat.reduceLT,Nat.reduceEqDiff,Int.natCast_inj]
  cases hc:decide (wh v.i=ew (wh v.i))with
  |true=>
   simp -implicitDefEqProofs only[↓reduceIte,go_sem,ab,Nat.reduceAdd,Nat.reduceLT,Nat.reduceEqDiff,e0]
   refine an.ret ?_
   simp -implicitDefEqProofs only[↓reduceIte,go_sem,Nat.reduceLT,fo,h2,hc]
  |false=>
   simp -implicitDefEqProofs only[↓reduceIte,go_sem,Nat.reduceLT,Nat.reduceEqDiff,reduceCtorEq]
   refine an.ret ?_
   simp -implicitDefEqProofs only[↓reduceIte,go_sem,Nat.reduceLT,fo,h2,hc]
 by_cases h1:v.kind=1
 ·simp -implicitDefEqProofs only[↓reduceIte,go_sem,ab,Nat.reduceAdd,Nat.reduceLT,Nat.reduceLeDiff,Nat.reduceEqDiff,Int.reduceEq,h1,e0]
  refine an.ret ?_
  simp -implicitDefEqProofs only[↓reduceIte,go_sem,Nat.reduceLT,Int.reduceEq,fo,h1]
 by_cases h3:v.kind=3
 ·by_cases hi:v.i=0
  ·simp -implicitDefEqProofs only[↓reduceIte,go_sem,ab,Nat.reduceAdd,Nat.reduceLT,Nat.reduceLeDiff,Nat.reduceEqDiff,Int.reduceEq,h3,hi]
   refine an.ret ?_
   simp -implicitDefEqProofs only[↓reduceIte,go_sem,Nat.reduceLT,Int.reduceEq,fo,h3,hi,show((v.s.size:Int)≤1024)=(v.s.size≤1024)from by simp;omega]
  ·simp -implicitDefEqProofs only[↓reduceIte,go_sem,ab,Nat.reduceAdd,Nat.reduceLT,Nat.reduceLeDiff,Nat.reduceEqDiff,Int.reduceEq,reduceCtorEq,h3,hi]
   refine an.ret ?_
   simp -implicitDefEqProofs only[↓reduceIte,go_sem,Nat.reduceLT,Int.reduceEq,fo,h3,hi]
 by_cases h0:v.kind=0
 ·have e1:lQ v.kind v.i v.s 0 0 ⟨#[]⟩=(decide (v.i=0)&&decide (v.s.toList=[])):=by
   rw[show lQ v.kind v.i v.s 0 0 ⟨#[]⟩=decide (v=⟨0,0,jE⟩)from AL v]
   simp only[CT v h0,Bool.decide_and]
  simp -implicitDefEqProofs only[↓reduceIte,go_sem,ab,Nat.reduceAdd,Nat.reduceLT,Nat.reduceLeDiff,Nat.reduceEqDiff,h1,h2,h3,eq_true h0,e1]
  refine an.ret ?_
  simp -implicitDefEqProofs only[↓reduceIte,go_sem,Nat.reduceLT,fo,h1,h2,h3,eq_true h0]
 simp -implicitDefEqProofs only[↓reduceIte,go_sem,ab,Nat.reduceAdd,Nat.reduceLT,Nat.reduceLeDiff,Nat.reduceEqDiff,reduceCtorEq,h0,h1,h2,h3]
 refine an.ret ?_
 simp -implicitDefEqProofs only[↓reduceIte,go_sem,Nat.reduceLT,fo,h0,h1,h2,h3]
theorem sH(l:List Int)(p:Int→Bool)(g:FuncId)(caps:List AV)(n1:Bool)(H:aa)(hl:l.length≤9223372036854775807)(hf:∀v∈l,ag Tryz.prog g ([iA v]++caps) H (.ok (bA (p v))) H):
  ag Tryz.prog 110 [.d (.list n1 (ints l)),.fn g caps] H (.ok (iA (kD p l))) H:=by
 refine ag.ai (hint:=(fun _=>false)) Tryz.func110 (by kernel_rfl) rfl [4] (by kernel_rfl) (by decide) (by simp[Tryz.ntmps110]) ?_
 rw[Tryz.ntmps110]
 simp -implicitDefEqProofs only[↓reduceIte,go_sem,Nat.reduceLT,Int.reduceNeg,reduceCtorEq,ao]
 refine aU (fun k s H'=>H'=H∧(∀i (hi:i<k) (hl:i<l.length),p l[i]=false)∧s 0= .d (.list n1 (ints l))∧s 1= .fn g caps∧s 7=iA l.length∧s 8=iA k) l.length hl (ak.refl _ _) ?_ ?_ ?_
 ·refine⟨rfl,fun i hi=>by omega,?_⟩
  simp -implicitDefEqProofs only[↓reduceIte,go_sem,Nat.reduceLT,Nat.reduceEqDiff,reduceCtorEq]
 ·rintro k s H' hk hw ⟨rfl,hp,h0,h1,h7,h8⟩
  have hx:=bD l k hk
  have hit:p l[k]=true→kD p l=k:=fun h=>oS hp hk h
  have hpp:p l[k]=false→∀i (hi:i<k+1) (hl:i<l.length),p l[i]=false:=fun h0 i hi hl'=>by
   rcases Nat.lt_or_ge i k with h|h
   ·exact hp i h hl'
   ·obtain rfl:i=k:=by omega
    exact h0
  have hfk:=hf l[k] (List.getElem_mem hk)
  generalize l[k]=v at hx hit hpp hfk
  simp -implicitDefEqProofs only[↓reduceIte,go_sem,Nat.reduceLT,Nat.reduceEqDiff,reduceCtorEq,h0,h1,h7,h8,hk,hx]
  refine ae.ok hfk ?_
  cases hv:p v with
  |true=>
   simp -implicitDefEqProofs only[↓reduceIte,go_sem,Nat.reduceLT,Nat.reduceEqDiff]
   refine an.aI ?_
   simp -implicitDefEqProofs only[↓reduceIte,go_sem,Nat.reduceLT,hit hv]
  |false=>
   simp -implicitDefEqProofs only[↓reduceIte,go_sem,Nat.reduceLT,Nat.reduceEqDiff,h8]
   refine cl.same ⟨rfl,hpp hv,?_⟩
   simp -implicitDefEqProofs only[↓reduceIte,go_sem,Nat.reduceLT,Nat.reduceEqDiff,reduceCtorEq,h0,h1,h7,hw]
 ·rintro s H' ⟨rfl,hp,h0,h1,h7,h8⟩
  simp -implicitDefEqProofs only[↓reduceIte,go_sem,Nat.reduceLT,Int.reduceNeg,h7,h8]
  refine an.aI ?_
  simp -implicitDefEqProofs only[↓reduceIte,go_sem,Nat.reduceLT,Int.reduceNeg,m5 fun i hi=>hp i hi hi]
theorem fp(l:List Int)(p:Int→Bool)(g:FuncId)(caps:List AV)(n1:Bool)(H:aa)(hl:l.length≤9223372036854775807)(hf:∀v∈l,ag Tryz.prog g ([iA v]++caps) H (.ok (bA (p v))) H):
  ag Tryz.prog 65 [.d (.list n1 (ints l)),.fn g caps] H (.ok (bA (l.any p))) H:=by
 refine ag.ai (hint:=(fun _=>false)) Tryz.func65 (by kernel_rfl) rfl [4] (by kernel_rfl) (by decide) (by simp[Tryz.ntmps65]) ?_
 rw[Tryz.ntmps65]
 simp -implicitDefEqProofs only[↓reduceIte,go_sem,Nat.reduceLT,Nat.reduceEqDiff,reduceCtorEq]
 refine ae.ok (sH l p g caps n1 H hl hf) ?_
 simp -implicitDefEqProofs only[↓reduceIte,go_sem,Nat.reduceLT,pD]
 refine an.aI ?_
 simp -implicitDefEqProofs only[↓reduceIte,go_sem,Nat.reduceLT,Bool.decide_eq_true]
theorem tv(x n:Int)(id:Nat)(H:aa)(hx:H[id]?=some (.box 3 1 0 1 [iA n])):ag Tryz.prog 114 [iA x,.ptr id 0 0 0] H (.ok (bA (decide (x<0∨n≤x)))) H:=by
 refine ag.ai (hint:=(fun _=>false)) Tryz.func114 (by kernel_rfl) rfl [3] (by kernel_rfl) (by decide) (by simp[Tryz.ntmps114]) ?_
 rw[Tryz.ntmps114]
 by_cases h:x<0
 ·simp -implicitDefEqProofs only[↓reduceIte,go_sem,Nat.reduceLT,Nat.reduceEqDiff,reduceCtorEq,h]
  refine an.aI ?_
  simp -implicitDefEqProofs only[↓reduceIte,go_sem,Nat.reduceLT,h,true_or,decide_true]
 ·simp -implicitDefEqProofs only[↓reduceIte,go_sem,ab,Nat.reduceLT,Nat.reduceEqDiff,reduceCtorEq,h,hx]
  refine an.aI ?_
  simp -implicitDefEqProofs only[↓reduceIte,go_sem,Nat.reduceLT,h,false_or]
def dU(l:List Int)(n:Int):Bool:= !(l.any fun x=>decide (x<0∨n≤x))
theorem gF(l:List Int)(nn:Bool)(n:Int)(H:aa)(hl:l.length≤1000000000000):ag Tryz.prog 71 [.d (.list nn (ints l)),iA n] H (.ok (bA (dU l n))) H:=by
 refine ag.ai (hint:=(fun _=>false)) Tryz.func71 (by kernel_rfl) rfl [4] (by kernel_rfl) (by decide) (by simp[Tryz.ntmps71]) ?_
 rw[Tryz.ntmps71]
 simp -implicitDefEqProofs only[↓reduceIte,go_sem,Nat.reduceLT,Nat.reduceEqDiff,reduceCtorEq]
 refine ae.ok (fp l (fun x=>decide (x<0∨n≤x)) _ _ nn _ (by omega) fun x _=>tv x n H.length _ (by simp -implicitDefEqProofs only[go_sem])) ?_
 simp -implicitDefEqProofs only[↓reduceIte,go_sem,Nat.reduceLT]
 refine an.ret ?_
 simp -implicitDefEqProofs only[↓reduceIte,go_sem,Nat.reduceLT,dU]
theorem vJ(x:Int)(H:aa):ag Tryz.prog 112 [iA x] H (.ok (bA (decide (x<1∨3<x)))) H:=by
 refine ag.ai (hint:=(fun _=>false)) Tryz.func112 (by kernel_rfl) rfl [2] (by kernel_rfl) (by decide) (by simp[Tryz.ntmps112]) ?_
 rw[Tryz.ntmps112]
 by_cases h:x<1
 ·simp -implicitDefEqProofs only[↓reduceIte,go_sem,Nat.reduceLT,Nat.reduceEqDiff,reduceCtorEq,h]
  refine an.aI ?_
  simp -implicitDefEqProofs only[↓reduceIte,go_sem,Nat.reduceLT,h,true_or,decide_true]
 ·simp -implicitDefEqProofs only[↓reduceIte,go_sem,Nat.reduceLT,Nat.reduceEqDiff,reduceCtorEq,h]
  refine an.aI ?_
  simp -implicitDefEqProofs only[↓reduceIte,go_sem,Nat.reduceLT,h,false_or]
theorem AF(v:al)(H:aa):ag Tryz.prog 147 [v.av] H (.ok (bA (!fo v))) H:=by
 refine ag.ai (hint:=(fun _=>false)) Tryz.func147 (by kernel_rfl) rfl [2] (by kernel_rfl) (by decide) (by simp[Tryz.ntmps147]) ?_
 rw[Tryz.ntmps147]
 simp -implicitDefEqProofs only[↓reduceIte,go_sem,ab,Nat.reduceAdd,Nat.reduceLT,Nat.reduceEqDiff,al.av]
 refine ae.ok (fK v _) ?_
 simp -implicitDefEqProofs only[↓reduceIte,go_sem,Nat.reduceLT]
 refine an.ret ?_
 simp -implicitDefEqProofs only[↓reduceIte,go_sem,Nat.reduceLT]
def mR(v:al)(k:Int):Bool:=decide (v.kind≠0∧v.kind≠k)
def iC(r:List al)(ks:List Int):Int:=if r.length≠ks.length then 4 else if(r.any fun v=> !fo v)=true then 1 else if((r.zip ks).any fun p=>mR p.1 p.2)=true then 7 else 0
def ju(ks:List Int):List (List al)→Int
 |[]=>0
 |r::R=>if iC r ks≠0 then iC r ks else ju ks R
def dm(R:List (List al))(ks:List Int):Int:=if ks.length=0∨8<ks.length∨(ks.any fun x=>decide (x<1∨3<x))=true then 1 else if 4096<R.length then 2 else ju ks R
theorem rC(ks:List Int):∀{R:List (List al)} {k:Nat} (hk:k<R.length) (h:∀i (hi:i<k) (hl:i<R.length),iC R[i] ks=0) (hx:iC R[k] ks≠0),ju ks R=iC R[k] ks
 |[],k,hk,_,_=>by simp at hk
 |r::R,0,hk,_,hx=>by simp only[List.getElem_cons_zero]at hx⊢;simp[ju,hx]
 |r::R,k+1,hk,h,hx=>by
  have h0:=h 0 (by omega) (by simp)
  simp only[List.getElem_cons_zero]at h0
  simp only[List.getElem_cons_succ]at hx⊢
  simp only[ju,h0,ne_eq,not_true_eq_false,if_false]
  exact rC ks (by simpa using hk) (fun i hi hl=>by have:=h (i+1) (by omega) (by simpa using hl);simpa using this) hx
theorem oq(ks:List Int):∀{R:List (List al)} (h:∀i (hl:i<R.length),iC R[i] ks=0),ju ks R=0
 |[],_=>rfl
 |r::R,h=>by
  have h0:=h 0 (by simp)
  simp only[List.getElem_cons_zero]at h0
  simp only[ju,h0,ne_eq,not_true_eq_false,if_false]
  exact oq ks fun i hl=>by have:=h (i+1) (by simpa using hl);simpa using this
theorem Db(r:List al)(ks:List Int)(n1 n2:Bool)(H:aa)(hr:r.length≤1000000000000)(hk:ks.length≤1000000000000):
  ag Tryz.prog 113 [.d (.list n1 (r.map al.enc)),.d (.list n2 (ints ks))] H (.ok (iA (iC r ks))) H:=by
 refine ag.ai (hint:=(fun _=>false)) Tryz.func113 (by kernel_rfl) rfl [4] (by kernel_rfl) (by decide) (by simp[Tryz.ntmps113]) ?_
 rw[Tryz.ntmps113]
 simp -implicitDefEqProofs only[↓reduceIte,go_sem,Nat.reduceLT,Nat.reduceEqDiff,reduceCtorEq,ao,List.length_map]
 by_cases hl:r.length=ks.length
 case neg=>
  refine cT (by simp -implicitDefEqProofs only[go_sem,show ¬((r.length:Int)=(ks.length:Int)) by omega]) ?_
  simp -implicitDefEqProofs only[go_sem]
  refine an.aI ?_
  simp -implicitDefEqProofs only[↓reduceIte,go_sem,Nat.reduceLT,iC,hl]
 refine cO (by simp -implicitDefEqProofs only[go_sem,hl]) ?_
 simp -implicitDefEqProofs only[↓reduceIte,go_sem,Nat.reduceLT,reduceCtorEq]
 refine ae.ok (gl r (fun v=> !fo v) _ [] n1 _ (by omega) fun v _=>AF v _) ?_
 cases hm:r.any fun v=> !fo v with
 |true=>
  simp -implicitDefEqProofs only[↓reduceIte,go_sem,Nat.reduceLT]
  refine an.aI ?_
  simp -implicitDefEqProofs only[↓reduceIte,go_sem,Nat.reduceLT,iC,hl,hm]
 |false=>
 simp -implicitDefEqProofs only[↓reduceIte,go_sem,Nat.reduceLT,reduceCtorEq,List.length_map]
 have hzl:(r.zip ks).length=r.length:=by rw[List.length_zip];omega
 refine aU (fun k s H'=>H'=H∧(∀i (hi:i<k) (hl:i<(r.zip ks).length),mR (r.zip ks)[i].1 (r.zip ks)[i].2=false)∧s 1= .d (.list n2 (ints ks))∧s 14= .d (.list n1 (r.map al.enc))∧s 15=iA r.length∧s 16=iA k) r.length (by omega) (ak.refl _ _) ?_ ?_ ?_
 ·refine⟨rfl,fun i hi=>by omega,?_⟩
  simp -implicitDefEqProofs only[↓reduceIte,go_sem,Nat.reduceLT,Nat.reduceEqDiff]
 ·rintro k s H' hk' hw ⟨rfl,hp,t1,t14,t15,t16⟩
  have hkk:k<ks.length:=by omega
  have hx:(r.map al.enc)[k]?=some r[k].enc:=by simp[hk']
  have hy:=bD ks k hkk
  have hz:(r.zip ks)[k]'(by omega)=(r[k],ks[k]):=by simp
  have hit:mR r[k] ks[k]=true→((r.zip ks).any fun p=>mR p.1 p.2)=true:=fun h=>zh (k:=k) (by omega) (by rw[hz];exact h)
  have hpp:mR r[k] ks[k]=false→∀i (hi:i<k+1) (hl:i<(r.zip ks).length),mR (r.zip ks)[i].1 (r.zip ks)[i].2=false:=fun h0 i hi hl'=>by
   rcases Nat.lt_or_ge i k with h|h
   ·exact hp i h hl'
   ·obtain rfl:i=k:=by omega
    rw[hz];exact h0
  generalize r[k]=v at*
  generalize ks[k]=q at*
  simp -implicitDefEqProofs only[↓reduceIte,go_sem,aq,Nat.reduceAdd,Nat.reduceLT,Nat.reduceEqDiff,t14,t15,t16,hk',hx,al.enc]
  refine aF K.mixed (by kernel_rfl) ?_
  by_cases h0:v.kind=0
  case' pos=>
   have hmk:mR v q=false:=by simp[mR,h0]
   simp -implicitDefEqProofs only[↓reduceIte,go_sem,ab,Nat.reduceAdd,Nat.reduceLT,Nat.reduceLeDiff,Nat.reduceEqDiff,reduceCtorEq,h0]
  case' neg=>
   by_cases h1:v.kind=q
   case' pos=>
    have hmk:mR v q=false:=by simp[mR,h1]
    have h2:¬q=0:=h1▸h0
    simp -implicitDefEqProofs only[↓reduceIte,go_sem,ab,Nat.reduceAdd,Nat.reduceLT,Nat.reduceLeDiff,Nat.reduceEqDiff,t1,hy,h2,h1]
   case' neg=>
    have hmk:mR v q=true:=by simp[mR,h0,h1]
    simp -implicitDefEqProofs only[↓reduceIte,go_sem,ab,Nat.reduceAdd,Nat.reduceLT,Nat.reduceLeDiff,Nat.reduceEqDiff,t1,hy,h0,h1]
    refine an.ret ?_
    simp -implicitDefEqProofs only[↓reduceIte,go_sem,Nat.reduceLT,reduceCtorEq,iC,hl,hm,hit hmk]
  all_goals
   simp -implicitDefEqProofs only[↓reduceIte,go_sem,Nat.reduceLT,t16]
   refine cl.cut [] _ 0 rfl rfl (by simp -implicitDefEqProofs only[go_sem]) ?_
   refine⟨List.append_nil _,hpp hmk,?_⟩
   simp -implicitDefEqProofs only[↓reduceIte,go_sem,Nat.reduceLT,Nat.reduceEqDiff,t1,t14,t15,hw]
 ·rintro s H' ⟨rfl,hp,t1,t14,t15,t16⟩
  simp -implicitDefEqProofs only[↓reduceIte,go_sem,Nat.reduceLT,t15,t16]
  refine an.aI ?_
  simp -implicitDefEqProofs only[↓reduceIte,go_sem,Nat.reduceLT,reduceCtorEq,iC,hl,hm,any_none (l:=r.zip ks) (p:=fun p=>mR p.1 p.2) fun i hi=>hp i (by omega) hi]
theorem jK(R:List (List al))(ks:List Int)(n1 n2:Bool)(H:aa)(hR:R.length≤1000000000000)(hr:∀r∈R,r.length≤1000000000000)(hk:ks.length≤100000000000000):
  ag Tryz.prog 70 [.d (.list n1 (bU R)),.d (.list n2 (ints ks))] H (.ok (iA (dm R ks))) H:=by
 refine ag.ai (hint:=(fun _=>false)) Tryz.func70 (by kernel_rfl) rfl [4] (by kernel_rfl) (by decide) (by simp[Tryz.ntmps70]) ?_
 rw[Tryz.ntmps70]
 have hc:∀H:aa,ag Tryz.prog 65 [.d (.list n2 (ints ks)),.fn 112 []] H (.ok (bA (ks.any fun x=>decide (x<1∨3<x)))) H:=fun H=>fp ks _ _ [] n2 H (by omega) fun x _=>vJ x H
 have hrest:¬(ks.length=0∨8<ks.length∨(ks.any fun x=>decide (x<1∨3<x))=true)→dm R ks=if 4096<R.length then 2 else ju ks R:=fun h=>by unfold dm;rw[if_neg h]
 have hbad:(ks.length=0∨8<ks.length∨(ks.any fun x=>decide (x<1∨3<x))=true)→dm R ks=1:=fun h=>by unfold dm;rw[if_pos h]
 generalize (ks.any fun x=>decide (x<1∨3<x))=cb at*
 by_cases h0:ks.length=0
 ·simp -implicitDefEqProofs only[↓reduceIte,go_sem,Nat.reduceLT,Nat.reduceEqDiff,ao,h0]
  refine an.aI ?_
  simp -implicitDefEqProofs only[↓reduceIte,go_sem,Nat.reduceLT,hbad (.inl h0)]
 by_cases h8:8<ks.length
 ·simp -implicitDefEqProofs only[↓reduceIte,go_sem,Nat.reduceLT,Nat.reduceEqDiff,reduceCtorEq,ao,show ¬((ks.length:Int)=0) by omega,show(8:Int)<ks.length by omega]
  refine an.aI ?_
  simp -implicitDefEqProofs only[↓reduceIte,go_sem,Nat.reduceLT,hbad (.inr (.inl h8))]
 simp -implicitDefEqProofs only[↓reduceIte,go_sem,Nat.reduceLT,Nat.reduceEqDiff,reduceCtorEq,ao,show ¬((ks.length:Int)=0) by omega,show ¬((8:Int)<ks.length) by omega]
 refine ae.ok (hc _) ?_
 cases cb with
 |true=>
  simp -implicitDefEqProofs only[↓reduceIte,go_sem,Nat.reduceLT,Nat.reduceEqDiff,reduceCtorEq]
  refine an.aI ?_
  simp -implicitDefEqProofs only[↓reduceIte,go_sem,Nat.reduceLT,hbad (.inr (.inr rfl))]
 |false=>
 have hch:=hrest (by rintro(h|h|h);exact h0 h;exact h8 h;cases h)
 by_cases hb:4096<R.length
 ·simp -implicitDefEqProofs only[↓reduceIte,go_sem,Nat.reduceLT,Nat.reduceEqDiff,reduceCtorEq,cr,show(4096:Int)<R.length by omega]
  refine an.aI ?_
  simp -implicitDefEqProofs only[↓reduceIte,go_sem,Nat.reduceLT,hch,hb]
 simp -implicitDefEqProofs only[↓reduceIte,go_sem,Nat.reduceLT,Nat.reduceEqDiff,reduceCtorEq,cr,show ¬((4096:Int)<R.length) by omega]
 rw[if_neg hb]at hch
 refine aU (fun k s H'=>H'=H∧(∀i (hi:i<k) (hl:i<R.length),iC R[i] ks=0)∧s 1= .d (.list n2 (ints ks))∧s 27= .d (.list n1 (bU R))∧s 28=iA R.length∧s 29=iA k) R.length (by omega) (ak.refl _ _) ?_ ?_ ?_
 ·refine⟨rfl,fun i hi=>by omega,?_⟩
  simp -implicitDefEqProofs only[↓reduceIte,go_sem,Nat.reduceLT,Nat.reduceEqDiff]
 ·rintro k s H' hk' hw ⟨rfl,hp,t1,t27,t28,t29⟩
  have hx:=kp R k hk'
  have hrl:=hr R[k] (List.getElem_mem hk')
  have hit:iC R[k] ks≠0→ju ks R=iC R[k] ks:=fun h=>rC ks hk' hp h
  have hpp:iC R[k] ks=0→∀i (hi:i<k+1) (hl:i<R.length),iC R[i] ks=0:=fun h0 i hi hl'=>by
   rcases Nat.lt_or_ge i k with h|h
   ·exact hp i h hl'
   ·obtain rfl:i=k:=by omega
    exact h0
  generalize R[k]=v at*
  simp -implicitDefEqProofs only[↓reduceIte,go_sem,Nat.reduceLT,Nat.reduceEqDiff,t1,t27,t28,t29,hk',hx]
  refine ae.ok (Db v ks false n2 _ hrl (by omega)) ?_
  generalize iC v ks=e at*
  by_cases he:e=0
  ·simp -implicitDefEqProofs only[↓reduceIte,go_sem,Nat.reduceLT,Nat.reduceEqDiff,t29,he]
   refine cl.same ⟨rfl,hpp he,?_⟩
   simp -implicitDefEqProofs only[↓reduceIte,go_sem,Nat.reduceLT,Nat.reduceEqDiff,t1,t27,t28,hw]
  ·simp -implicitDefEqProofs only[↓reduceIte,go_sem,Nat.reduceLT,Nat.reduceEqDiff,he]
   refine an.aI ?_
   simp -implicitDefEqProofs only[↓reduceIte,go_sem,Nat.reduceLT,hch,hit he]
 ·rintro s H' ⟨rfl,hp,t1,t27,t28,t29⟩
  simp -implicitDefEqProofs only[↓reduceIte,go_sem,Nat.reduceLT,t28,t29]
  refine an.aI ?_
  simp -implicitDefEqProofs only[↓reduceIte,go_sem,Nat.reduceLT,hch,oq ks fun i hi=>hp i hi hi]
end Go.Proofs.YtggohfhfocgilaaGreat

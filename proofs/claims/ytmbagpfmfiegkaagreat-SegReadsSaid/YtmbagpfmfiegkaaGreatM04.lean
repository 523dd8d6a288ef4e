/- Contracts of functions and lemmas for segReads_holds, part 4. -/
import Derived.Test.YtmbagpfmfiegkaaGreatM03
set_option maxHeartbeats 8000000
set_option maxRecDepth 100000
set_option linter.all false
namespace Go.Proofs.YtmbagpfmfiegkaaGreat
open Go.Proofs.YtmbagpfmfiegkaaGreatAw Go.RowKit
def bF(l:List Bool):List (List D):=l.map fun b=>[.v (.bool b)]
theorem bP(l:List Bool):(bF l).length=l.length:=by simp[bF]
theorem kh(l:List Bool)(k:Nat)(h:k<l.length):(bF l)[k]?=some [.v (.bool l[k])]:=by simp[bF,h]
theorem jr(l:List Bool)(b:Bool):bF l++[[.v (.bool b)]]=bF (l++[b]):=by simp[bF]
def aC(l:List Bool):Nat:=l.countP (·==true)
theorem v8(l:List Bool)(b:Bool):aC (l++[b])=if b then aC l+1 else aC l:=by
 unfold aC
 rw[List.countP_append]
 cases b<;>simp
theorem ef(l:List Bool):aC l≤l.length:=List.countP_le_length
theorem rC(l:List Bool)(nn:Bool)(hl:l.length≤1000000000000)(H:aa):ag Tryz.prog 47 [.d (.list nn (bF l))] H (.ok (iA (aC l))) H:=by
 refine ag.aj (hint:=(fun _=>false)) Tryz.func47 (by kernel_rfl) rfl [2] (by kernel_rfl) (by decide) (by simp[Tryz.ntmps47]) ?_
 rw[Tryz.ntmps47]
 simp -implicitDefEqProofs only[↓reduceIte,go_sem,Nat.reduceLT,reduceCtorEq]
 refine bW (fun k s H'=>H'=H∧s 3=iA (aC (l.take k))∧s 6= .d (.list nn (bF l))∧s 7=iA l.length∧s 8=iA k) l.length (by omega) (ay.refl _ _) ?_ ?_ ?_
 ·refine⟨rfl,?_⟩
  simp -implicitDefEqProofs only[↓reduceIte,go_sem,Nat.reduceLT,Nat.reduceEqDiff,bP]
  rfl
 ·rintro k s H' hk hw ⟨rfl,t3,t6,t7,t8⟩
  have hx:=kh l k hk
  have e1:=v8 (l.take k) l[k]
  rw[←List.take_succ_eq_append_getElem hk]at e1
  have hle:=ef (l.take k)
  rw[List.length_take]at hle
  rw[e1]
  generalize l[k]=b at*
  generalize aC (l.take k)=c at*
  have wc:IntKind.i64.wrap ((c:Int)+1)=((c+1:Nat):Int):=by rw[wrap64_in _ (by omega) (by omega)];rfl
  cases b with
  |true=>
   simp -implicitDefEqProofs only[↓reduceIte,go_sem,Nat.reduceLT,Nat.reduceEqDiff,t3,t6,t7,t8,hk,hx,wc]
   refine c9.same ⟨rfl,?_⟩
   simp -implicitDefEqProofs only[↓reduceIte,go_sem,Nat.reduceLT,Nat.reduceEqDiff,t6,t7,hw]
  |false=>
   simp -implicitDefEqProofs only[↓reduceIte,go_sem,Nat.reduceLT,Nat.reduceEqDiff,reduceCtorEq,t6,t7,t8,hk,hx]
   refine c9.same ⟨rfl,?_⟩
   simp -implicitDefEqProofs only[↓reduceIte,go_sem,Nat.reduceLT,Nat.reduceEqDiff,t3,t6,t7,hw]
 ·rintro s H' ⟨rfl,t3,t6,t7,t8⟩
  rw[List.take_length]at t3
  simp -implicitDefEqProofs only[↓reduceIte,go_sem,Nat.reduceLT,Nat.reduceEqDiff,t3,t7,t8]
  refine aw.aI ?_
  simp -implicitDefEqProofs only[↓reduceIte,go_sem,Nat.reduceLT]
theorem Ao(l:List Bool)(nn:Bool)(hl:l.length≤1000000)(H:aa):ag Tryz.prog 35 [.d (.list nn (bF l))] H (.ok (.d (.list false (aD (bR l))))) H:=by
 have z0:wH H []=H++[.box 125 2 0 1 [.sl (H.length+1) 0 0 0,iA 0],.arr 5 1 0 []]:=rfl
 refine ag.aj (hint:=(fun t=>t==1000002)) Tryz.func35 (by kernel_rfl) rfl [2] (by kernel_rfl) (by decide) (by simp[Tryz.ntmps35]) ?_
 rw[Tryz.ntmps35]
 simp -implicitDefEqProofs only[↓reduceIte,go_sem,Nat.reduceAdd,Nat.reduceLT,Nat.reduceBEq]
 refine⟨_,_,ay.mF _ _ H.length 125 2 0 1 [.d (.v (.slice none 0 0)),iA 0] 0 _ 5 1 (by decide) (by simp) rfl rfl,?_⟩
 simp -implicitDefEqProofs only[↓reduceIte,go_sem,reduceCtorEq]
 rw[←z0]
 refine bW (fun k s H'=>H'=wH H (l.take k)∧s 3= .ptr H.length 0 0 0∧s 9= .d (.list nn (bF l))∧s 10=iA l.length∧s 11=iA k) l.length (by omega) (ay.refl _ _) ?_ ?_ ?_
 ·refine⟨rfl,?_⟩
  simp -implicitDefEqProofs only[↓reduceIte,go_sem,Nat.reduceLT,Nat.reduceEqDiff,reduceCtorEq,bP]
 ·rintro k s H' hk hw ⟨rfl,t3,t9,t10,t11⟩
  have hx:=kh l k hk
  have e1:=List.take_succ_eq_append_getElem hk
  have b1:ca 1 1=[true]:=by decide
  have b0:ca 0 1=[false]:=by decide
  have hp1:=mO 1 1 (by decide) (by decide) H (l.take k) (by rw[List.length_take];omega)
  have hp0:=mO 0 1 (by decide) (by decide) H (l.take k) (by rw[List.length_take];omega)
  rw[b1]at hp1
  rw[b0]at hp0
  rw[e1]
  generalize l[k]=b at*
  cases b with
  |true=>
   simp -implicitDefEqProofs only[↓reduceIte,go_sem,Nat.reduceAdd,Nat.reduceLT,Nat.reduceEqDiff,Nat.reduceBEq,t3,t9,t10,t11,hk,hx]
   refine ae.ok hp1 ?_
   simp -implicitDefEqProofs only[↓reduceIte,go_sem,Nat.reduceAdd,Nat.reduceLT,Nat.reduceEqDiff,Nat.reduceBEq,t11]
   refine c9.same ⟨rfl,?_⟩
   simp -implicitDefEqProofs only[↓reduceIte,go_sem,Nat.reduceLT,Nat.reduceEqDiff,t3,t9,t10,hw]
  |false=>
   simp -implicitDefEqProofs only[↓reduceIte,go_sem,Nat.reduceAdd,Nat.reduceLT,Nat.reduceEqDiff,Nat.reduceBEq,t3,t9,t10,t11,hk,hx]
   refine ae.ok hp0 ?_
   simp -implicitDefEqProofs only[↓reduceIte,go_sem,Nat.reduceAdd,Nat.reduceLT,Nat.reduceEqDiff,Nat.reduceBEq,t11]
   refine c9.same ⟨rfl,?_⟩
   simp -implicitDefEqProofs only[↓reduceIte,go_sem,Nat.reduceLT,Nat.reduceEqDiff,t3,t9,t10,hw]
 ·rintro s H' ⟨rfl,t3,t9,t10,t11⟩
  rw[List.take_length]
  simp -implicitDefEqProofs only[↓reduceIte,go_sem,Nat.reduceAdd,Nat.reduceLT,Nat.reduceEqDiff,Nat.reduceBEq,t3,t10,t11]
  refine ae.ok (qm H l (by omega)) ?_
  simp -implicitDefEqProofs only[↓reduceIte,go_sem,Nat.reduceLT]
  unfold wH
  refine aw.ret ?_
  simp -implicitDefEqProofs only[↓reduceIte,go_sem,Nat.reduceLT]
def qX(b:List Nat)(n:Nat):List Bool:=(bG b n 1).map fun x=>decide (x=1)
theorem HH(b:List Nat)(n:Nat)(hl:b.length≤140737488351232)(hb:∀c∈b,c<256)(hn:n≤1048576)(H:aa):
  ag Tryz.prog 44 [.d (.list false (aD b)),iA n] H (.ok (.bz [.d (.list false (bF (if bq b n 1=0 then qX b n else[]))),iA (bq b n 1)])) H:=by
 have hu:=fun H=>ml b n 1 false hl hb hn (by decide) H
 have hLl:=cr b n 1
 have hLt:=gp b n 1 (by decide)
 unfold eF at hu
 unfold qX
 generalize bG b n 1=L at*
 generalize bq b n 1=e at*
 by_cases he:e=0
 ·subst he
  rw[if_pos rfl]at hu
  rw[if_pos rfl]
  refine ag.aj (hint:=(fun _=>false)) Tryz.func44 (by kernel_rfl) rfl [4,5] (by kernel_rfl) (by decide) (by simp[Tryz.ntmps44]) ?_
  rw[Tryz.ntmps44]
  simp -implicitDefEqProofs only[↓reduceIte,go_sem,Nat.reduceLT,Nat.reduceEqDiff,reduceCtorEq]
  refine ae.ok (hu _) ?_
  simp -implicitDefEqProofs only[↓reduceIte,go_sem,Nat.reduceLT,Nat.reduceEqDiff]
  refine bW (fun k s H'=>H'=H++[.arr 4 1 k (bF ((L.take k).map fun x=>decide (x=1)))]∧s 8= .sl H.length k 0 k∧s 20= .d (.list false (us L))∧s 21=iA L.length∧s 22=iA k) L.length (by omega) (ay.db _ _ 8 4 1 (by decide) (by simp -implicitDefEqProofs only[↓reduceIte,go_sem,Nat.reduceLT,Nat.reduceEqDiff]) _) ?_ ?_ ?_
  ·refine⟨rfl,?_⟩
   simp -implicitDefEqProofs only[↓reduceIte,go_sem,Nat.reduceLT,Nat.reduceEqDiff,cT]
  ·rintro k s H' hk hw ⟨rfl,t8,t20,t21,t22⟩
   have hx:=iO L k hk
   have e1:(L.take (k+1)).map (fun x=>decide (x=1))=(L.take k).map (fun x=>decide (x=1))++[decide (L[k]=1)]:=by rw[List.take_succ_eq_append_getElem hk,List.map_append];rfl
   have hml:((L.take k).map fun x=>decide (x=1)).length=k:=by rw[List.length_map,List.length_take];omega
   have hd:decide ((L[k]:Int)=1)=decide (L[k]=1):=decide_eq_decide.2 (by omega)
   rw[e1]
   generalize (L.take k).map (fun x=>decide (x=1))=B at*
   generalize hdv:decide (L[k]=1)=dv at*
   simp -implicitDefEqProofs only[↓reduceIte,go_sem,Nat.reduceLT,Nat.reduceLeDiff,Nat.reduceEqDiff,t8,t20,t21,t22,hk,hx,hd,bP,hml,jr]
   refine⟨by omega,by omega,?_⟩
   refine c9.same ⟨rfl,?_⟩
   simp -implicitDefEqProofs only[↓reduceIte,go_sem,Nat.reduceLT,Nat.reduceEqDiff,t20,t21,hw]
  ·rintro s H' ⟨rfl,t8,t20,t21,t22⟩
   rw[List.take_length]
   simp -implicitDefEqProofs only[↓reduceIte,go_sem,Nat.reduceLT,Nat.reduceEqDiff,t8,t21,t22]
   refine aw.ret ?_
   simp -implicitDefEqProofs only[↓reduceIte,go_sem,Nat.reduceLT,Nat.reduceEqDiff,List.take_of_length_le (show(bF (L.map fun x=>decide (x=1))).length≤L.length by rw[bP,List.length_map];exact Nat.le_refl _)]
 ·rw[if_neg he]at hu
  rw[if_neg he]
  refine ag.bE (cs:=[.d (.v (.slice none 0 0)),iA e]) ?_ (.cons .nil (.cons (.refl _) .nil))
  refine ag.aj (hint:=(fun _=>false)) Tryz.func44 (by kernel_rfl) rfl [4,5] (by kernel_rfl) (by decide) (by simp[Tryz.ntmps44]) ?_
  rw[Tryz.ntmps44]
  simp -implicitDefEqProofs only[↓reduceIte,go_sem,Nat.reduceLT,Nat.reduceEqDiff,reduceCtorEq]
  refine ae.ok (hu _) ?_
  simp -implicitDefEqProofs only[↓reduceIte,go_sem,Nat.reduceLT,Nat.reduceEqDiff,he]
  refine aw.aI ?_
  simp -implicitDefEqProofs only[↓reduceIte,go_sem,Nat.reduceLT,Nat.reduceEqDiff]
end Go.Proofs.YtmbagpfmfiegkaaGreat
namespace Go.Proofs.YtmbagpfmfiegkaaGreatAw
open Go.RowKit
section
variable (P:Program) (hint:Nat→Bool) (n:Nat) (y:Code) (m:Nat) (In:aa→Prop) (Ix:AX→aa→Prop) (H Hk:aa) (s:Nat→AV)
def Im:bH:=fun e s2 H3=>∃s3 H4,ay Hk s2 H3 s3 H4∧H4.length=m∧(match e with| .normal=>In H4| .panic _=>False|e=>Ix e H4)
def MR:bH:=fun e s1 H2=>match e with| .normal=>dQ P hint n Hk y (Im m In Ix Hk) s1 H2|_=>False
theorem CJ:MR P hint n y m In Ix Hk .normal s H=dQ P hint n Hk y (Im m In Ix Hk) s H:=rfl
theorem z9(t:Tmp)(v:AV):kW n s [t] [v]=cv n s (some t) v:=rfl
end
attribute [go_sem] CJ z9
@[congr] theorem NZ {P:Program} {hint:Nat→Bool} {n:Nat} {y:Code} {m:Nat} {In:aa→Prop} {Ix:AX→aa→Prop} {Hk:aa} {e:AX} {s:Nat→AV} {H H':aa} (h:nf H=H'):MR P hint n y m In Ix Hk e s H=MR P hint n y m In Ix Hk e s H':=by rw[←h];rfl
@[congr] theorem Nc {m:Nat} {In:aa→Prop} {Ix:AX→aa→Prop} {Hk:aa} {e:AX} {s:Nat→AV} {H H':aa} (h:nf H=H'):Im m In Ix Hk e s H=Im m In Ix Hk e s H':=by rw[←h];rfl
theorem Im.cut{m:Nat}{In:aa→Prop}{Ix:AX→aa→Prop}{H ob0:aa}{s:Nat→AV}(gS T:aa){H3:aa}(e:H3=H++(gS++T))(hk:gS.length=ob0.length)(hm:m=(H++ob0).length)(hb:gS.all (aT.below m)=true)
  (hi:In (H++gS)):Im m In Ix (H++ob0) .normal s H3:=by
 subst e
 have hl:(H++gS).length=m:=by rw[hm];simp[hk]
 have hw:=ay.zS (H0:=H++ob0) s (H++(gS++T)) m (by omega) (by rw[←hl];simp) fun i o h1 ho=>by
  rw[←List.append_assoc,List.getElem?_append_left (by omega)]at ho
  rcases Nat.lt_or_ge i H.length with hi|hi
  ·rw[List.getElem?_append_left hi]at ho
   exact .inl (by rw[List.getElem?_append_left hi];exact ho)
  ·rw[List.getElem?_append_right hi]at ho
   rw[List.all_eq_true]at hb
   exact .inr (hb o (List.mem_of_getElem? ho))
 rw[show(H++(gS++T)).take m=H++gS from by rw[←List.append_assoc,←hl,List.take_left]]at hw
 exact⟨_,_,hw,hl,hi⟩
theorem Im.same{m:Nat}{In:aa→Prop}{Ix:AX→aa→Prop}{Hk H3:aa}{s:Nat→AV}(hl:H3.length=m)(hi:In H3):Im m In Ix Hk .normal s H3:=⟨s,H3,.refl _ _,hl,hi⟩
theorem vq{P:Program}{hint:Nat→Bool}{n:Nat}{H0:aa}{g:Operand}{ps:Array Tmp}{x y:Code}{Q:bH}{s s0:Nat→AV}{H H1:aa}(hint':Nat→Bool){gf:FuncId}{caps:List AV}{xs:List (List AV)}{C:aa→Prop}(I:Nat→aa→Prop)(Ix:AX→aa→Prop)
  (hm:hint 2000000=true) (hm':hint' 2000000=false) (hW:ay H0 s H s0 H1) (hg:ao s0 g= .fn gf caps) (hs:Fj P gf caps C xs) (hx:∀v∈xs,v.length=ps.size∧∀u∈v,kZ H1.length u=true) (h0:I 0 H1) (hC:∀k Hk,I k Hk→C Hk∧Hk.length=H1.length)
  (round:∀k (hk:k<xs.length) Hk,I k Hk→dQ P hint' n Hk x (MR P hint' n y H1.length (I (k+1)) Ix Hk) (kW n s0 ps.toList (xs[k])) Hk)
  (done:∀Hn,I xs.length Hn→Q .normal s0 Hn) (stop:∀e Hx,Ix e Hx→Q e s0 Hx):dQ P hint n H0 (.rangeFunc g ps x y) Q s H:=by
 refine⟨hm,hint',gf,caps,xs,C,I,Ix,s0,H1,hm',hW,hg,hs,fun v hv=>⟨(hx v hv).1,fun u hu=>J9 ((hx v hv).2 u hu)⟩,h0,hC,fun k hk Hk hI=>?_,done,stop⟩
 exact round k hk Hk hI
theorem Fo.mono{m m':Nat}{o:aT}(h:Fo m o)(hm:m≤m'):Fo m' o:=
 ⟨fun e k ver n cs he c hc=>(h.1 e k ver n cs he c hc).mono hm,fun kk es he e hx=>(h.2.1 kk es he e hx).mono hm,fun a b c he=>Nat.lt_of_lt_of_le (h.2.2.1 a b c he) hm,fun r s he t=>(h.2.2.2 r s he t).mono hm⟩
theorem GM{m:Nat}{Hs Hk:aa}{r r':Loop}{s:Nat→AV}(hb:mT m Hk)(hl:Hk.length=m)(hs:∀t,lK m (s t)):∀(i:Nat) (o:aT),(Hk++[aT.lp r' s])[i]?=some o→(Hs++[aT.lp r s])[i]?=some o∨Fo (m+1) o:=by
 intro i o h
 right
 rcases sM h with⟨h1,_⟩|⟨_,rfl⟩
 ·exact(hb i o h1).mono (by omega)
 ·exact⟨fun _ _ _ _ _ he=>(by cases he),fun _ _ he=>(by cases he),fun _ _ _ he=>(by cases he),fun _ _ he t=>(by cases he;exact(hs t).mono (by omega))⟩
theorem ay.iter{m:Nat}{Hs Hk T H:aa}{r r':Loop}{s0 s:Nat→AV}(e:H=Hk++([.lp r' s0]++T))(hb:mT m Hk)(hl:Hk.length=m)(hl':Hs.length=m)(hs:∀t,lK m (s0 t)):ay (Hs++[.lp r s0]) s H (fun t=>sx H (m+1) (s t)) (Hk++[.lp r' s0]):=by
 subst e
 have hlen:(Hk++[aT.lp r' s0]).length=m+1:=by simp[hl]
 have hw:=ay.Gv (H0:=Hs++[.lp r s0]) s (Hk++([.lp r' s0]++T)) (m+1) (by simp[hl']) (by simp;omega) fun i o h1 ho=>by
  rw[←List.append_assoc,List.getElem?_append_left (by omega)]at ho
  exact GM hb hl hs i o ho
 rwa[show(Hk++([aT.lp r' s0]++T)).take (m+1)=Hk++[.lp r' s0]from by rw[←List.append_assoc,←hlen,List.take_left]]at hw
theorem Is(H:aa)(m id:Nat):sx H m (.k8 id)=if id<m then .k8 id else .top:=rfl
attribute [go_sem] Is
end Go.Proofs.YtmbagpfmfiegkaaGreatAw
namespace Go.Proofs.YtmbagpfmfiegkaaGreat
open Go.Proofs.YtmbagpfmfiegkaaGreatAw Go.RowKit
def eJ(n:Int):Prop:=-9223372036854775808≤n∧n≤9223372036854775807
theorem eJ.of{n:Int}(h:(Lit.int .i64 n).wf=true):eJ n:=by
 have h:IntKind.i64.min≤n∧n≤IntKind.i64.max:=by simpa[Lit.wf]using h
 have h0:IntKind.i64.min=-9223372036854775808:=by decide
 have h1:IntKind.i64.max=9223372036854775807:=by decide
 exact⟨by omega,by omega⟩
theorem eR.IK{xs:List D}(h:eR [] xs):xs=[]:=by cases h;rfl
theorem eR.cons_inv{s:Sh}{ss:List Sh}{xs:List D}(h:eR (s::ss) xs):∃x xs',xs=x::xs'∧Fits s x∧eR ss xs':=by cases h with|cons h t=>exact⟨_,_,rfl,h,t⟩
theorem Fits.IE{k:IntKind}{d:D}(h:Fits (.int k) d):∃n,d= .v (.int k n)∧(Lit.int k n).wf=true:=by cases h with|int k n h=>exact⟨n,rfl,h⟩
theorem Fits.EC{b:Nat}{es:List Sh}{d:D}(h:Fits (.slice b es) d):∃l,d= .list false l∧l.length* b≤140737488351232∧∀e∈l,eR es e:=by cases h with|slice b es l h1 h2 h=>exact⟨l,rfl,h1,h⟩
theorem Di{α:Type}{enc:α→List D}{p:α→Prop}:∀{l:List (List D)},(∀e∈l,∃a,e=enc a∧p a)→∃la:List α,l=la.map enc∧∀a∈la,p a
 |[],_=>⟨[],rfl,fun a h=>by simp at h⟩
 |e::l,h=>by
  obtain⟨a,rfl,ha⟩:=h e (List.mem_cons_self ..)
  obtain⟨la,rfl,hl⟩:=Di (l:=l) fun e he=>h e (by simp[he])
  exact⟨a::la,rfl,fun b hb=>by rcases List.mem_cons.1 hb with rfl|hb;exact ha;exact hl b hb⟩
structure aq.Ok (v:aq):Prop where
 kind:eJ v.kind
 i:eJ v.i
 s:v.s.size≤140737488351232
structure Atom.Ok (a:Atom):Prop where
 Nj:eJ a.Nj
 op:eJ a.op
 val:a.val.Ok
theorem Jc{P:Program}{t:TypeId}{x:AV}{sh:Sh}(h:tu P t x)(hg:gT P t=some false)(hs:sr P 9 t=some [sh]):∃d,x= .d d∧Fits sh d:=by
 rcases h with⟨_,sh',d,hs',hf,rfl⟩|⟨hg',_⟩
 ·rw[hs]at hs';cases hs';exact⟨d,rfl,hf⟩
 ·rw[hg]at hg';cases hg'
theorem D8{x:AV}(h:tu Tryz.prog 22 x):∃b:List Nat,x= .d (.list false (aD b))∧b.length≤140737488351232∧∀c∈b,c<256:=by
 obtain⟨d,rfl,hf⟩:=Jc h K.JM (sh:= .slice 1 [.int .u8]) (by kernel_rfl)
 obtain⟨l,rfl,h1,h2⟩:=Fits.EC hf
 obtain⟨la,rfl,h3⟩:=Di (enc:=fun n:Nat=>[.v (.int .u8 (n:Int))]) (p:=fun n=>n<256) fun e he=>by
  obtain⟨x,xs,rfl,hx,h⟩:=eR.cons_inv (h2 e he)
  cases eR.IK h
  obtain⟨n,rfl,hn⟩:=Fits.IE hx
  have hn:IntKind.u8.min≤n∧n≤IntKind.u8.max:=by simpa[Lit.wf]using hn
  have h0:IntKind.u8.min=0:=by decide
  have h1:IntKind.u8.max=255:=by decide
  obtain⟨m,rfl⟩:=Int.eq_ofNat_of_zero_le (show 0≤n by omega)
  exact⟨m,rfl,by omega⟩
 exact⟨la,rfl,by simpa using h1,h3⟩
def aE(l:List aq):List aq:=l.filter fun v=>decide (v.kind≠0)
def tm(l:List aq):List (List AV):=(aE l).map fun v=>[v.av]
abbrev lB(l:List aq):aT:= .box 42 1 0 1 [.d (.list false (l.map aq.enc))]
theorem sm(l:List aq)(v:aq):aE (l++[v])=if v.kind=0 then aE l else aE l++[v]:=by
 unfold aE
 rw[List.filter_append]
 by_cases h:v.kind=0<;>simp[h]
theorem Hz(l:List aq){k:Nat}(hk:k<l.length)(hz:l[k].kind≠0):∃h:(aE (l.take k)).length<(tm l).length,(tm l)[(aE (l.take k)).length]=[l[k].av]:=by
 have e:aE l=aE (l.take k)++l[k]::aE (l.drop (k+1)):=by
  have h1:l=l.take k++(l[k]::l.drop (k+1)):=by rw[←List.drop_eq_getElem_cons hk,List.take_append_drop]
  have h2:aE (l.take k++(l[k]::l.drop (k+1)))=aE (l.take k)++l[k]::aE (l.drop (k+1)):=by
   unfold aE
   rw[List.filter_append,List.filter_cons,if_pos (by simpa using hz)]
  rw[←h1]at h2
  exact h2
 unfold tm
 rw[e]
 refine⟨by simp,?_⟩
 simp
theorem pB(l:List aq)(H:aa):ag Tryz.prog 57 [.d (.list false (l.map aq.enc))] H (.ok (.fn 101 [.ptr H.length 0 0 0])) (H++[lB l]):=by
 refine ag.aj (hint:=(fun _=>false)) Tryz.func57 (by kernel_rfl) rfl [2] (by kernel_rfl) (by decide) (by simp[Tryz.ntmps57]) ?_
 rw[Tryz.ntmps57]
 simp -implicitDefEqProofs only[↓reduceIte,go_sem,Nat.reduceLT,Nat.reduceEqDiff]
 exact⟨_,ay.refl _ _,by simp -implicitDefEqProofs only[↓reduceIte,go_sem,Nat.reduceLT]⟩
theorem CP(l:List aq)(id:Nat)(hl:l.length≤1000000000000):Fj Tryz.prog 101 [.ptr id 0 0 0] (fun H=>H[id]?=some (lB l)) (tm l):=by
 intro r s0 J Jx m Hs h0 hsb hJ hY
 refine Dn.aj (hint:=fun t=>t==3000000) Tryz.func101 (by kernel_rfl) rfl [] (by kernel_rfl) (by decide) (by simp[Tryz.ntmps101]) ?_
 rw[Tryz.ntmps101]
 obtain⟨hC0,_,hl0⟩:=hJ 0 Hs h0
 have hx0:(Hs++[aT.lp r s0])[id]?=some (lB l):=by rw[List.getElem?_append_left (az hC0)];exact hC0
 simp -implicitDefEqProofs only[↓reduceIte,go_sem,ah,Nat.reduceLT,hx0]
 refine bW (fun k s H'=>∃Hk,J (aE (l.take k)).length Hk∧H'=Hk++[.lp r s0]∧s 0= .k8 m∧s 5= .d (.list false (l.map aq.enc))∧s 6=iA l.length∧s 7=iA k) l.length (by omega) (ay.refl _ _) ?_ ?_ ?_
 ·refine⟨Hs,h0,rfl,?_⟩
  simp -implicitDefEqProofs only[↓reduceIte,go_sem,Nat.reduceLT,Nat.reduceEqDiff,reduceCtorEq]
 ·rintro k s H' hk hw ⟨Hk,hJk,rfl,t0,t5,t6,t7⟩
  have hx:(l.map aq.enc)[k]?=some [.v (.int .i64 l[k].kind),.v (.int .i64 l[k].i),.v (.string l[k].s)]:=by rw[List.getElem?_map,List.getElem?_eq_getElem hk];rfl
  have e1:=sm (l.take k) l[k]
  rw[←List.take_succ_eq_append_getElem hk]at e1
  obtain⟨hCk,hbk,hlk⟩:=hJ _ _ hJk
  by_cases hz:l[k].kind=0
  ·rw[if_pos hz]at e1
   generalize l[k]=v at*
   simp -implicitDefEqProofs only[↓reduceIte,go_sem,ah,au,Nat.reduceAdd,Nat.reduceLT,Nat.reduceLeDiff,Nat.reduceEqDiff,Nat.reduceBEq,reduceCtorEq,t5,t6,t7,hk,hx,hz]
   refine⟨_,_,ay.iter rfl hbk hlk hl0 hsb,Hk,by rw[e1];exact hJk,rfl,?_⟩
   simp -implicitDefEqProofs only[↓reduceIte,go_sem,Nat.reduceLT,Nat.reduceEqDiff,reduceCtorEq,t0,t5,t6,hw,Nat.lt_add_one]
  ·rw[if_neg hz]at e1
   obtain⟨hi,hxi⟩:=Hz l hk hz
   have hYk:=fun T=>hY _ hi Hk T hJk
   rw[hxi]at hYk
   generalize hv:l[k]=v at*
   simp -implicitDefEqProofs only[↓reduceIte,go_sem,ah,au,Nat.reduceAdd,Nat.reduceLT,Nat.reduceLeDiff,Nat.reduceEqDiff,Nat.reduceBEq,reduceCtorEq,t0,t5,t6,t7,hk,hx,hz]
   refine ES.ok (hYk [.box 25 3 0 1 [iA v.kind,iA v.i,sA v.s]]) ?_
   intro b H' hb
   cases b with
   |true=>
    rw[if_pos rfl]at hb
    obtain⟨Hk',hJk',rfl⟩:=hb
    obtain⟨hCk',hbk',hlk'⟩:=hJ _ _ hJk'
    simp -implicitDefEqProofs only[↓reduceIte,go_sem,Nat.reduceAdd,Nat.reduceLT,Nat.reduceEqDiff,Nat.reduceBEq,t7]
    refine⟨_,_,ay.iter rfl hbk' hlk' hl0 hsb,Hk',by rw[e1,List.length_append];exact hJk',rfl,?_⟩
    simp -implicitDefEqProofs only[↓reduceIte,go_sem,Nat.reduceLT,Nat.reduceEqDiff,reduceCtorEq,t0,t5,t6,hw,Nat.lt_add_one]
   |false=>
    rw[if_neg (by simp)]at hb
    obtain⟨Hk',c,hjx,hbk',hlk',rfl⟩:=hb
    simp -implicitDefEqProofs only[↓reduceIte,go_sem,Nat.reduceLT,Nat.reduceEqDiff]
    exact⟨_,_,ay.iter rfl hbk' hlk' hl0 hsb,rfl,.inr ⟨Hk',c,hjx,hlk',rfl⟩⟩
 ·rintro s H' ⟨Hk,hJk,rfl,t0,t5,t6,t7⟩
  rw[List.take_length]at hJk
  simp -implicitDefEqProofs only[↓reduceIte,go_sem,Nat.reduceLT,t6,t7]
  exact⟨_,_,ay.refl _ _,rfl,.inl ⟨Hk,by unfold tm;rw[List.length_map];exact hJk,rfl⟩⟩
theorem rD(gf:FuncId)(caps:List AV)(C:aa→Prop)(l:List aq)(H:aa)(hs:Fj Tryz.prog gf caps C (l.map fun v=>[v.av]))(hC:∀T,C (H++T))(hl:l.length≤1000000000):
  ag Tryz.prog 126 [.d (.v (.slice none 0 0)),.fn gf caps] H (.ok (.d (.list false (l.map aq.enc)))) H:=by
 refine ag.aj (hint:=(fun t=>t==2000000)) Tryz.func126 (by kernel_rfl) rfl [4] (by kernel_rfl) (by decide) (by simp[Tryz.ntmps126]) ?_
 rw[Tryz.ntmps126]
 simp -implicitDefEqProofs only[↓reduceIte,go_sem,Nat.reduceAdd,Nat.reduceLT,Nat.reduceEqDiff,Nat.reduceBEq]
 refine vq (fun _=>false) (fun k Hk=>Hk=H++[.box 42 1 0 1 [.sl (H.length+1) k 0 k],.arr 25 3 k ((l.take k).map aq.enc)]) (fun _ _=>False) rfl rfl (ay.mF _ _ H.length 42 1 0 1 [.d (.v (.slice none 0 0))] 0 _ 25 3 (by decide) (by simp) rfl rfl) (by simp -implicitDefEqProofs only[↓reduceIte,go_sem,Nat.reduceLT]) hs ?_ ?_ ?_ ?_ ?_ (fun _ _ h=>h.elim)
 ·intro v hv
  obtain⟨u,_,rfl⟩:=List.mem_map.1 hv
  exact⟨rfl,fun w hw=>by rw[List.mem_singleton.1 hw];rfl⟩
 ·simp -implicitDefEqProofs only[go_sem,List.take_zero]
 ·rintro k _ rfl
  exact⟨hC _,by simp -implicitDefEqProofs only[go_sem,Nat.reduceAdd]⟩
 ·rintro k hk _ rfl
  rw[List.length_map]at hk
  have e1:(l.take (k+1)).map aq.enc=(l.take k).map aq.enc++[l[k].enc]:=by rw[List.take_succ_eq_append_getElem hk,List.map_append];rfl
  have hlen:((l.take k).map aq.enc).length=k:=by rw[List.length_map,List.length_take];omega
  rw[e1,List.getElem_map]
  generalize (l.take k).map aq.enc=B at*
  generalize l[k]=v at*
  simp -implicitDefEqProofs only[↓reduceIte,go_sem,ah,au,Nat.reduceAdd,Nat.reduceLT,Nat.reduceLeDiff,Nat.reduceEqDiff,hlen]
  refine⟨by omega,by omega,?_⟩
  refine Im.cut [.box 42 1 0 1 [.sl (H.length+1) (k+1) 0 (k+1)],.arr 25 3 (k+1) (B++[v.enc])] _ rfl rfl (by simp -implicitDefEqProofs only[go_sem,Nat.reduceAdd]) (by simp -implicitDefEqProofs only[go_sem,Nat.reduceAdd,Nat.reduceLT]) ?_
  rfl
 ·rintro _ rfl
  rw[List.length_map,List.take_length]
  simp -implicitDefEqProofs only[↓reduceIte,go_sem,ah,Nat.reduceAdd,Nat.reduceLT,Nat.reduceEqDiff,Nat.reduceBEq]
  refine aw.ret ?_
  simp -implicitDefEqProofs only[↓reduceIte,go_sem,Nat.reduceLT,List.take_of_length_le (show(l.map aq.enc).length≤l.length by simp)]
theorem vT(gf:FuncId)(caps:List AV)(C:aa→Prop)(l:List aq)(H:aa)(hs:Fj Tryz.prog gf caps C (l.map fun v=>[v.av]))(hC:∀T,C (H++T))(hl:l.length≤1000000000):
  ag Tryz.prog 89 [.fn gf caps] H (.ok (.d (.list false (l.map aq.enc)))) H:=by
 refine ag.aj (hint:=(fun _=>false)) Tryz.func89 (by kernel_rfl) rfl [2] (by kernel_rfl) (by decide) (by simp[Tryz.ntmps89]) ?_
 rw[Tryz.ntmps89]
 simp -implicitDefEqProofs only[↓reduceIte,go_sem,Nat.reduceLT,reduceCtorEq]
 refine ae.ok (rD gf caps C l _ hs hC hl) ?_
 simp -implicitDefEqProofs only[↓reduceIte,go_sem,Nat.reduceLT]
 refine aw.aI ?_
 simp -implicitDefEqProofs only[↓reduceIte,go_sem,Nat.reduceLT]
def bL(l:List aq):List Bool:=l.map fun v=>decide (v.kind=0)
theorem qx(l:List aq)(v:aq):bL (l++[v])=bL l++[decide (v.kind=0)]:=by simp[bL]
theorem dN(l:List aq):(bL l).length=l.length:=by simp[bL]
theorem Bj(l:List aq)(hl:l.length≤1000000000)(H:aa):ag Tryz.prog 28 [.d (.list false (l.map aq.enc))] H (.ok (.bz [.d (.list false (bF (bL l))),.d (.list false ((aE l).map aq.enc))])) H:=by
 refine ag.aj (hint:=(fun t=>t==2000000)) Tryz.func28 (by kernel_rfl) rfl [2,3] (by kernel_rfl) (by decide) (by simp[Tryz.ntmps28]) ?_
 rw[Tryz.ntmps28]
 simp -implicitDefEqProofs only[↓reduceIte,go_sem,Nat.reduceAdd,Nat.reduceLT,Nat.reduceBEq,reduceCtorEq]
 refine bW (fun k s H'=>H'=H++[.arr 4 1 k (bF (bL (l.take k)))]∧s 0= .d (.list false (l.map aq.enc))∧s 4= .sl H.length k 0 k∧s 9= .d (.list false (l.map aq.enc))∧s 10=iA l.length∧s 11=iA k) l.length (by omega) (ay.db _ _ 4 4 1 (by decide) (by simp -implicitDefEqProofs only[↓reduceIte,go_sem,Nat.reduceLT,Nat.reduceEqDiff]) _) ?_ ?_ ?_
 ·refine⟨rfl,?_⟩
  simp -implicitDefEqProofs only[↓reduceIte,go_sem,Nat.reduceLT,Nat.reduceEqDiff,reduceCtorEq]
 ·rintro k s H' hk hw ⟨rfl,t0,t4,t9,t10,t11⟩
  have hx:(l.map aq.enc)[k]?=some [.v (.int .i64 l[k].kind),.v (.int .i64 l[k].i),.v (.string l[k].s)]:=by rw[List.getElem?_map,List.getElem?_eq_getElem hk];rfl
  have e1:=qx (l.take k) l[k]
  rw[←List.take_succ_eq_append_getElem hk]at e1
  have hml:(bL (l.take k)).length=k:=by rw[dN,List.length_take];omega
  rw[e1]
  generalize bL (l.take k)=B at*
  generalize l[k]=v at*
  generalize hdv:decide (v.kind=0)=dv at*
  simp -implicitDefEqProofs only[↓reduceIte,go_sem,ah,au,Nat.reduceAdd,Nat.reduceLT,Nat.reduceLeDiff,Nat.reduceEqDiff,Nat.reduceBEq,t4,t9,t10,t11,hk,hx,hdv,bP,hml,jr]
  refine⟨by omega,by omega,?_⟩
  refine c9.cut [.arr 4 1 (k+1) (bF (B++[dv]))] _ 1 rfl rfl (by simp -implicitDefEqProofs only[go_sem]) ?_
  refine⟨rfl,?_⟩
  simp -implicitDefEqProofs only[↓reduceIte,go_sem,Nat.reduceLT,Nat.reduceEqDiff,reduceCtorEq,t0,t9,t10,hw]
 ·rintro s H' ⟨rfl,t0,t4,t9,t10,t11⟩
  rw[List.take_length]
  simp -implicitDefEqProofs only[↓reduceIte,go_sem,Nat.reduceAdd,Nat.reduceLT,Nat.reduceBEq,reduceCtorEq,t0,t10,t11]
  refine ae.ok (pB l _) ?_
  simp -implicitDefEqProofs only[go_sem,Nat.reduceAdd]
  have hsq:=CP l (H.length+2) (by omega)
  have hfl:(aE l).length≤l.length:=List.length_filter_le _ _
  unfold tm at hsq
  generalize aE l=L at*
  have hBl:(bF (bL l)).length≤l.length:=by rw[bP,dN];exact Nat.le_refl _
  generalize bF (bL l)=B at*
  refine vq (fun _=>false) (fun k Hk=>Hk=H++[.arr 4 1 l.length B,.box 42 1 0 1 [.sl (H.length+3) k 0 k],lB l,.arr 25 3 k ((L.take k).map aq.enc)]) (fun _ _=>False) rfl rfl (ay.mF _ _ (H.length+1) 42 1 0 1 [.d (.v (.slice none 0 0))] 0 _ 25 3 (by decide) (by simp -implicitDefEqProofs only[go_sem]) rfl rfl) (by simp -implicitDefEqProofs only[↓reduceIte,go_sem,Nat.reduceLT]) hsq ?_ ?_ ?_ ?_ ?_ (fun _ _ h=>h.elim)
  ·intro v hv
   obtain⟨u,_,rfl⟩:=List.mem_map.1 hv
   exact⟨rfl,fun w hw=>by rw[List.mem_singleton.1 hw];rfl⟩
  ·simp -implicitDefEqProofs only[go_sem,Nat.reduceAdd,List.take_zero]
  ·rintro k _ rfl
   exact⟨by simp -implicitDefEqProofs only[go_sem],by simp -implicitDefEqProofs only[go_sem,Nat.reduceAdd]⟩
  ·rintro k hk _ rfl
   rw[List.length_map]at hk
   have e1:(L.take (k+1)).map aq.enc=(L.take k).map aq.enc++[L[k].enc]:=by rw[List.take_succ_eq_append_getElem hk,List.map_append];rfl
   have hlen:((L.take k).map aq.enc).length=k:=by rw[List.length_map,List.length_take];omega
   rw[e1,List.getElem_map]
   generalize (L.take k).map aq.enc=E at*
   generalize L[k]=v at*
   simp -implicitDefEqProofs only[↓reduceIte,go_sem,ah,au,Nat.reduceAdd,Nat.reduceLT,Nat.reduceLeDiff,Nat.reduceEqDiff,hlen]
   refine⟨by omega,by omega,?_⟩
   refine Im.cut [.arr 4 1 l.length B,.box 42 1 0 1 [.sl (H.length+3) (k+1) 0 (k+1)],lB l,.arr 25 3 (k+1) (E++[v.enc])] _ rfl rfl (by simp -implicitDefEqProofs only[go_sem,Nat.reduceAdd]) (by simp -implicitDefEqProofs only[go_sem,Nat.reduceAdd,Nat.reduceLT]) ?_
   rfl
  ·rintro _ rfl
   rw[List.length_map,List.take_length]
   simp -implicitDefEqProofs only[go_sem,Nat.reduceAdd,Nat.reduceBEq]
   refine aO K.mixed (by kernel_rfl) ?_
   simp -implicitDefEqProofs only[↓reduceIte,go_sem,ah,Nat.reduceLT,Nat.reduceEqDiff,t4]
   refine aw.ret ?_
   simp -implicitDefEqProofs only[↓reduceIte,go_sem,Nat.reduceLT,Nat.reduceEqDiff,List.take_of_length_le (show(L.map aq.enc).length≤L.length by simp),List.take_of_length_le hBl]
def eh:List Bool→List aq→List aq
 |[],_=>[]
 |true::ns,l=>⟨0,0,cP⟩::eh ns l
 |false::ns,v::l=>v::eh ns l
 |false::ns,[]=>[]
def fl(ns:List Bool)(l:List aq):List aq×Int:=
 if ns.length-aC ns≠l.length then([],4)else if(aE l).length≠l.length then([],4)else(eh ns l,0)
theorem count_cons(b:Bool)(l:List Bool):aC (b::l)=if b then aC l+1 else aC l:=by
 unfold aC
 rw[List.countP_cons]
 cases b<;>simp
theorem Fi(ns:List Bool)(l:List aq)(hn:ns.length≤1000000)(hl:l.length≤1000000000)(H:aa):
  ag Tryz.prog 48 [.d (.list false (bF ns)),.d (.list false (l.map aq.enc))] H (.ok (.bz [.d (.list false ((fl ns l).1.map aq.enc)),iA (fl ns l).2])) H:=by
 have hcl:=ef ns
 have hc:=fun H=>rC ns false (by omega) H
 have hw1:IntKind.i64.wrap ((ns.length:Int)-(aC ns:Int))=((ns.length-aC ns:Nat):Int):=by rw[wrap64_in _ (by omega) (by omega)];omega
 by_cases h1:ns.length-aC ns=l.length
 ·have hne:(((l.length:Nat):Int)=((ns.length-aC ns:Nat):Int))=True:=eq_true (by omega)
  have hsq:=fun id=>CP l id (by omega)
  have hfl:(aE l).length≤l.length:=List.length_filter_le _ _
  unfold tm at hsq
  have hcol:=fun(G:aa)=>vT 101 [.ptr G.length 0 0 0] (fun H=>H[G.length]?=some (lB l)) (aE l) (G++[lB l]) (hsq G.length) (fun T=>by rw[List.append_assoc];simp) (by omega)
  by_cases h2:(aE l).length=l.length
  ·have hj:fl ns l=(eh ns l,0):=by unfold fl;rw[if_neg (by simp[h1]),if_neg (by simp[h2])]
   have hne2:((((aE l).length:Nat):Int)=((l.length:Nat):Int))=True:=eq_true (by omega)
   rw[hj]
   refine ag.aj (hint:=(fun _=>false)) Tryz.func48 (by kernel_rfl) rfl [4,5] (by kernel_rfl) (by decide) (by simp[Tryz.ntmps48]) ?_
   rw[Tryz.ntmps48]
   simp -implicitDefEqProofs only[↓reduceIte,go_sem,Nat.reduceLT,Nat.reduceEqDiff,reduceCtorEq,bP]
   refine ae.ok (hc _) ?_
   simp -implicitDefEqProofs only[↓reduceIte,go_sem,Nat.reduceLT,Nat.reduceEqDiff,hw1,hne]
   refine ae.ok (pB l _) ?_
   simp -implicitDefEqProofs only[↓reduceIte,go_sem,Nat.reduceLT,Nat.reduceEqDiff]
   refine ae.ok (hcol _) ?_
   simp -implicitDefEqProofs only[↓reduceIte,go_sem,Nat.reduceLT,Nat.reduceEqDiff,reduceCtorEq,List.length_map,hne2]
   refine bW (fun k s H'=>∃O R,H'=H++[lB l,.arr 25 3 k (O.map aq.enc)]∧eh ns l=O++eh (ns.drop k) R∧O.length=k∧(ns.drop k).length-aC (ns.drop k)=R.length∧s 1= .d (.list false (R.map aq.enc))∧s 6= .sl (H.length+1) k 0 k∧s 26= .d (.list false (bF ns))∧s 27=iA ns.length∧s 28=iA k) ns.length (by omega) (ay.db _ _ 6 25 3 (by decide) (by simp -implicitDefEqProofs only[↓reduceIte,go_sem,Nat.reduceLT,Nat.reduceEqDiff]) _) ?_ ?_ ?_
   ·refine⟨[],l,by simp -implicitDefEqProofs only[go_sem],rfl,rfl,h1,?_⟩
    simp -implicitDefEqProofs only[↓reduceIte,go_sem,Nat.reduceLT,Nat.reduceEqDiff,bP]
   ·rintro k s H' hk hw ⟨O,R,rfl,hJ,hO,hR,t1,t6,t26,t27,t28⟩
    have hx:=kh ns k hk
    have hd:ns.drop k=ns[k]::ns.drop (k+1):=List.drop_eq_getElem_cons hk
    rw[hd]at hJ hR
    rw[count_cons]at hR
    have hce:=ef (ns.drop (k+1))
    generalize ns.drop (k+1)=D at*
    generalize ns[k]=b at*
    have hOl:(O.map aq.enc).length=k:=by rw[List.length_map];exact hO
    cases b with
    |true=>
     simp -implicitDefEqProofs only[↓reduceIte,go_sem,Nat.reduceAdd,Nat.reduceLT,Nat.reduceLeDiff,Nat.reduceEqDiff,t6,t26,t27,t28,hk,hx,hOl]
     refine⟨by omega,by omega,?_⟩
     refine c9.cut [lB l,.arr 25 3 (k+1) ((O++[(⟨0,0,cP⟩:aq)]).map aq.enc)] _ 2 rfl (by simp[aq.enc,cP];rfl) (by simp -implicitDefEqProofs only[go_sem]) ⟨O++[⟨0,0,cP⟩],R,rfl,by rw[hJ];simp[eh],by simp[hO],by simp at hR;omega,?_⟩
     simp -implicitDefEqProofs only[↓reduceIte,go_sem,Nat.reduceLT,Nat.reduceEqDiff,t1,t26,t27,hw]
    |false=>
     cases R with
     |nil=>simp at hR;omega
     |cons v R=>
      simp -implicitDefEqProofs only[↓reduceIte,go_sem,Nat.reduceAdd,Nat.reduceLT,Nat.reduceLeDiff,Nat.reduceEqDiff,Int.reduceLE,Int.reduceToNat,t1,t6,t26,t27,t28,hk,hx,hOl,aq.enc]
      refine⟨by omega,by omega,?_,by omega,by omega,?_⟩
      ·rintro c (rfl|hc)
       ·rfl
       ·obtain⟨u,_,rfl⟩:=List.mem_map.1 hc
        rfl
      refine c9.cut [lB l,.arr 25 3 (k+1) ((O++[v]).map aq.enc)] _ 2 rfl (by simp[aq.enc];rfl) (by simp -implicitDefEqProofs only[go_sem]) ⟨O++[v],R,rfl,by rw[hJ];simp[eh],by simp[hO],by simp at hR;omega,?_⟩
      simp -implicitDefEqProofs only[↓reduceIte,go_sem,Nat.reduceLT,Nat.reduceEqDiff,t26,t27,hw,show((R.length:Int)+1).toNat=R.length+1 by omega,List.take_succ_cons,List.take_of_length_le (show(R.map aq.enc).length≤R.length by simp),List.drop_succ_cons,List.drop_zero]
   ·rintro s H' ⟨O,R,rfl,hJ,hO,hR,t1,t6,t26,t27,t28⟩
    rw[List.drop_length]at hJ hR
    have hjo:eh ns l=O:=by rw[hJ];simp[eh]
    simp -implicitDefEqProofs only[↓reduceIte,go_sem,Nat.reduceLT,Nat.reduceEqDiff,t6,t27,t28]
    refine aw.ret ?_
    simp -implicitDefEqProofs only[↓reduceIte,go_sem,Nat.reduceLT,Nat.reduceEqDiff,hjo,List.take_of_length_le (show(O.map aq.enc).length≤ns.length by rw[List.length_map];omega)]
  ·have hj:fl ns l=([],4):=by unfold fl;rw[if_neg (by simp[h1]),if_pos h2]
   have hne2:((((aE l).length:Nat):Int)=((l.length:Nat):Int))=False:=eq_false (by omega)
   rw[hj]
   refine ag.bE (cs:=[.d (.v (.slice none 0 0)),iA 4]) ?_ (.cons .nil (.cons (.refl _) .nil))
   refine ag.aj (hint:=(fun _=>false)) Tryz.func48 (by kernel_rfl) rfl [4,5] (by kernel_rfl) (by decide) (by simp[Tryz.ntmps48]) ?_
   rw[Tryz.ntmps48]
   simp -implicitDefEqProofs only[↓reduceIte,go_sem,Nat.reduceLT,Nat.reduceEqDiff,reduceCtorEq,bP]
   refine ae.ok (hc _) ?_
   simp -implicitDefEqProofs only[↓reduceIte,go_sem,Nat.reduceLT,Nat.reduceEqDiff,hw1,hne]
   refine ae.ok (pB l _) ?_
   simp -implicitDefEqProofs only[↓reduceIte,go_sem,Nat.reduceLT,Nat.reduceEqDiff]
   refine ae.ok (hcol _) ?_
   simp -implicitDefEqProofs only[↓reduceIte,go_sem,Nat.reduceLT,Nat.reduceEqDiff,reduceCtorEq,List.length_map,hne2]
   refine aw.ret ?_
   simp -implicitDefEqProofs only[↓reduceIte,go_sem,Nat.reduceLT,Nat.reduceEqDiff]
 ·have hj:fl ns l=([],4):=by unfold fl;rw[if_pos h1]
  have hne:(((l.length:Nat):Int)=((ns.length-aC ns:Nat):Int))=False:=eq_false (by omega)
  rw[hj]
  refine ag.bE (cs:=[.d (.v (.slice none 0 0)),iA 4]) ?_ (.cons .nil (.cons (.refl _) .nil))
  refine ag.aj (hint:=(fun _=>false)) Tryz.func48 (by kernel_rfl) rfl [4,5] (by kernel_rfl) (by decide) (by simp[Tryz.ntmps48]) ?_
  rw[Tryz.ntmps48]
  simp -implicitDefEqProofs only[↓reduceIte,go_sem,Nat.reduceLT,Nat.reduceEqDiff,reduceCtorEq,bP]
  refine ae.ok (hc _) ?_
  simp -implicitDefEqProofs only[↓reduceIte,go_sem,Nat.reduceLT,Nat.reduceEqDiff,hw1,hne]
  refine aw.aI ?_
  simp -implicitDefEqProofs only[↓reduceIte,go_sem,Nat.reduceLT,Nat.reduceEqDiff]
theorem Ac:∀(k acc n:Nat) (r:List Nat),k≤9→acc+n* 128^(9-k)<18446744073709551616→(9≤k∨n≠0)→dV (k+1) acc (bp n++r)=(.ok (acc+n* 128^(9-k)),r):=by
 intro k
 induction k with
 |zero=>
  intro acc n r hk h hn
  have:n≤1:=by
   rcases Nat.lt_or_ge n 2 with h'|h'
   ·omega
   ·have:2* 128^9≤n* 128^9:=Nat.mul_le_mul_right _ h'
    simp only[Nat.sub_zero]at h
    omega
  rw[cY (by omega)]
  have hb:¬((0=0∧1<n)∨(0<9∧n=0)):=by omega
  rw[List.singleton_append]
  unfold dV
  rw[if_neg hb,if_pos (show n<128 by omega),Nat.mod_eq_of_lt (show n<128 by omega)]
 |succ k ih=>
  intro acc n r hk h hn
  by_cases hlt:n<128
  ·rw[cY hlt]
   have hb:¬((k+1=0∧1<n)∨(k+1<9∧n=0)):=by omega
   rw[List.singleton_append]
   unfold dV
   rw[if_neg hb,if_pos hlt,Nat.mod_eq_of_lt hlt]
  ·rw[kA hlt]
   have hb:¬((k+1=0∧1<n%128+128)∨(k+1<9∧n%128+128=0)):=by omega
   have hc:(n%128+128)%128=n%128:=by omega
   rw[List.cons_append]
   unfold dV
   rw[if_neg hb,if_neg (show ¬n%128+128<128 by omega),hc]
   have e:9-k=(9-(k+1))+1:=by omega
   have hp:n/128* 128^(9-k)=n/128* 128* 128^(9-(k+1)):=by rw[e,Nat.pow_succ,Nat.mul_comm (128^_) 128,Nat.mul_assoc]
   have hs:acc+n%128* 128^(9-(k+1))+n/128* 128^(9-k)=acc+n* 128^(9-(k+1)):=by
    rw[hp,Nat.add_assoc,←Nat.add_mul]
    congr 2
    omega
   rw[ih _ _ r (by omega) (by rw[hs];exact h) (.inr (by omega)),hs]
theorem gN(n:Nat)(h:n<18446744073709551616)(r:List Nat):aQ (bp n++r)=(n,(bp n).length,0):=by
 have:=Ac 9 0 n r (Nat.le_refl _) (by simpa using h) (.inl (Nat.le_refl _))
 unfold aQ
 rw[this]
 simp
theorem sy:∀(k acc:Nat) (b r:List Nat) (N:Nat),(∀c∈b,c<256)→k≤9→dV (k+1) acc b=(.ok N,r)→∃n,b=bp n++r∧N=acc+n* 128^(9-k)∧(9≤k∨n≠0):=by
 intro k
 induction k with
 |zero=>
  intro acc b r N hb hk h
  cases b with
  |nil=>simp[dV]at h
  |cons c b=>
   simp only[dV]at h
   split at h
   ·simp at h
   ·split at h
    ·rename_i h1 h2
     simp only[Prod.mk.injEq,Except.ok.injEq]at h
     obtain⟨rfl,rfl⟩:=h
     refine⟨c,by rw[cY h2];rfl,by rw[Nat.mod_eq_of_lt h2],.inr (by omega)⟩
    ·simp at h
 |succ k ih=>
  intro acc b r N hb hk h
  cases b with
  |nil=>simp[dV]at h
  |cons c b=>
   unfold dV at h
   split at h
   ·simp at h
   ·split at h
    ·rename_i h1 h2
     simp only[Prod.mk.injEq,Except.ok.injEq]at h
     obtain⟨rfl,rfl⟩:=h
     refine⟨c,by rw[cY h2];rfl,by rw[Nat.mod_eq_of_lt h2],?_⟩
     omega
    ·rename_i h1 h2
     obtain⟨m,rfl,hN,hm⟩:=ih _ b r N (fun x hx=>hb x (by simp[hx])) (by omega) h
     have hc:=hb c (by simp)
     have hm0:m≠0:=by omega
     refine⟨c%128+128* m,?_,?_,.inr (by omega)⟩
     ·rw[kA (n:=c%128+128* m) (by omega),show(c%128+128* m)%128+128=c by omega,show(c%128+128* m)/128=m by omega];rfl
     ·rw[hN,show 9-k=(9-(k+1))+1 by omega,Nat.pow_succ,Nat.add_mul,Nat.add_assoc]
      congr 2
      rw[Nat.mul_comm (128^_) 128,←Nat.mul_assoc,Nat.mul_comm m 128]
theorem oH:∀(k acc:Nat) (b r:List Nat) (e:Int),dV k acc b=(.error e,r)→e≠0
 |0,_,_,_,_,h=>by simp only[dV,Prod.mk.injEq,Except.error.injEq]at h;omega
 |_+1,_,[],_,_,h=>by simp only[dV,Prod.mk.injEq,Except.error.injEq]at h;omega
 |k+1,acc,c::b,r,e,h=>by
  unfold dV at h
  split at h
  ·simp only[Prod.mk.injEq,Except.error.injEq]at h;omega
  ·split at h
   ·simp at h
   ·exact oH k _ b r e h
theorem gW{b:List Nat}{n k:Nat}(hb:∀c∈b,c<256)(h:aQ b=(n,k,0)):k=(bp n).length∧b=bp n++b.drop k:=by
 unfold aQ at h
 split at h
 ·rename_i N r hn
  obtain⟨m,rfl,hN,_⟩:=sy 9 0 b r N hb (Nat.le_refl _) hn
  simp only[Prod.mk.injEq]at h
  obtain⟨rfl,rfl,_⟩:=h
  have:N=m:=by simpa using hN
  subst this
  refine⟨by simp,by simp⟩
 ·rename_i e r hn
  simp only[Prod.mk.injEq]at h
  exact absurd h.2.2 (oH _ _ _ _ _ hn)
theorem gV:∀(l:List Bool) (j:Nat),(byteOf l).testBit j=l.getD j false
 |[],j=>by simp[byteOf]
 |b::r,0=>by
  rw[Nat.testBit_zero]
  simp only[byteOf,List.getD_cons_zero]
  cases b<;>simp<;>omega
 |b::r,j+1=>by
  rw[Nat.testBit_succ]
  have:(byteOf (b::r))/2=byteOf r:=by simp only[byteOf];cases b<;>simp<;>omega
  rw[this,gV r j,List.getD_cons_succ]
theorem vD(l:List Bool):ca (byteOf l) l.length=l:=by
 apply List.ext_getElem
 ·rw[eo]
 ·intro i h1 h2
  simp only[ca,List.getElem_map,List.getElem_range,gV]
  simp[List.getD,h2]
theorem n9(n w:Nat)(h:n<2^w):byteOf (ca n w)=n:=by
 apply Nat.eq_of_testBit_eq
 intro j
 rw[gV]
 by_cases hj:j<w
 ·simp[List.getD,ca,hj]
 ·have:n.testBit j=false:=Nat.testBit_lt_two_pow (Nat.lt_of_lt_of_le h (Nat.pow_le_pow_right (by decide) (by omega)))
  simp[List.getD,ca,hj,this]
theorem tD(l:List Bool):∀m:Nat,byteOf (l++List.replicate m false)=byteOf l:=by
 intro m
 apply Nat.eq_of_testBit_eq
 intro j
 rw[gV,gV]
 simp only[List.getD]
 by_cases hj:j<l.length
 ·rw[List.getElem?_append_left hj]
 ·rw[List.getElem?_append_right (by omega),List.getElem?_eq_none (by omega:l.length≤j),List.getElem?_replicate]
  split<;>rfl
theorem p8:∀l:List Bool,byteOf l=0→l=List.replicate l.length false
 |[],_=>rfl
 |b::r,h=>by
  have hb:b=false:=by
   cases b
   ·rfl
   ·simp only[byteOf,Bool.toNat_true]at h;omega
  have hr:byteOf r=0:=by simp only[byteOf]at h;omega
  rw[List.length_cons,List.replicate_succ,hb,←p8 r hr]
theorem Bn(L:List Bool):cK (bR L)=L++List.replicate (8* ((L.length+7)/8)-L.length) false:=by
 have hlen:(cK (bR L)).length=8* ((L.length+7)/8):=by rw[gY,cH]
 apply List.ext_getElem
 ·rw[hlen,List.length_append,List.length_replicate];omega
 ·intro i h1 h2
  rw[hlen]at h1
  have hq:i/8<(L.length+7)/8:=by omega
  have hp:(bR L)[i/8]?=some (eN L (i/8)):=by simp[bR,hq]
  have h3:=pq (bR L) i _ hp
  rw[List.getElem?_eq_getElem (by rw[hlen];exact h1)]at h3
  rw[Option.some.inj h3]
  unfold eN
  rw[gV]
  have h8:i%8<8:=Nat.mod_lt _ (by decide)
  simp only[List.getD]
  rw[List.getElem?_take_of_lt h8,List.getElem?_drop,show 8* (i/8)+i%8=i by omega]
  by_cases hi:i<L.length
  ·rw[List.getElem_append_left hi,List.getElem?_eq_getElem hi];rfl
  ·rw[List.getElem_append_right (by omega),List.getElem?_eq_none (by omega:L.length≤i)]
   simp
theorem sg:∀(S:List Nat) (w k:Nat) (x:Nat),S[k]?=some x→((dp S w).drop (k* w)).take w=ca x w
 |[],w,k,x,h=>by simp at h
 |y::S,w,0,x,h=>by
  obtain rfl:y=x:=by simpa using h
  have e:dp (y::S) w=ca y w++dp S w:=rfl
  rw[e,Nat.zero_mul,List.drop_zero,List.take_append_of_le_length (by rw[eo];exact Nat.le_refl _),List.take_of_length_le (by rw[eo];exact Nat.le_refl _)]
 |y::S,w,k+1,x,h=>by
  have e:dp (y::S) w=ca y w++dp S w:=rfl
  rw[e,Nat.add_mul,Nat.one_mul,Nat.add_comm,←List.drop_drop,List.drop_left' (eo y w)]
  exact sg S w k x h
theorem mo(S:List Nat)(w:Nat)(h:∀n∈S,n<2^w):bG (cF S w) S.length w=S∧bq (cF S w) S.length w=0:=by
 have hL:=dW S w
 have hB:=Bn (dp S w)
 have hpl:(cF S w).length=((dp S w).length+7)/8:=cH _
 constructor
 ·apply List.ext_getElem
  ·rw[cr]
  ·intro k h1 h2
   have hx:=List.getElem?_eq_getElem h2
   have hlt:=h _ (List.getElem_mem h2)
   simp only[bG,List.getElem_map,List.getElem_range,uM]
   unfold cF
   rw[hB]
   have hk:k* w+w≤(dp S w).length:=by rw[hL,←Nat.succ_mul];exact Nat.mul_le_mul_right _ h2
   rw[List.drop_append_of_le_length (by omega),List.take_append_of_le_length (by rw[List.length_drop];omega),sg S w k _ hx,n9 _ _ hlt]
 ·unfold bq
  rw[if_neg (by omega),if_neg (by omega)]
  unfold cF
  rw[hB,List.drop_append_of_le_length (by omega),List.drop_of_length_le (by omega),tD]
  rfl
theorem GS(b:List Nat)(i c:Nat)(h:b[i]?=some c):((cK b).drop (8* i)).take 8=ca c 8:=by
 have:=sg b 8 i c h
 rw[Nat.mul_comm]
 exact this
theorem qo(b:List Nat)(n w:Nat)(hb:∀c∈b,c<256)(h:bq b n w=0):cF (bG b n w) w=b:=by
 unfold bq at h
 split at h
 ·simp at h
 rename_i h1
 split at h
 ·simp at h
 rename_i h2
 split at h
 ·rename_i h3
  have hz:=p8 _ h3
  have hlen:=gY b
  have hU:∀m,m≤n→dp (bG b m w) w=(cK b).take (m* w):=by
   intro m
   induction m with
   |zero=>intro _;simp[bG,dp]
   |succ m ih=>
    intro hm
    have hmw:(m+1)* w≤n* w:=Nat.mul_le_mul_right _ hm
    rw[lu,nx,ih (by omega),Nat.succ_mul,List.take_add]
    congr 1
    unfold uM
    have hl:(((cK b).drop (m* w)).take w).length=w:=by
     rw[Nat.succ_mul]at hmw
     rw[List.length_take,List.length_drop];omega
    have:=vD (((cK b).drop (m* w)).take w)
    rw[hl]at this
    exact this
  have hB:cK b=dp (bG b n w) w++List.replicate ((cK b).drop (n* w)).length false:=by
   rw[hU n (Nat.le_refl _),←hz,List.take_append_drop]
  have hLl:(dp (bG b n w) w).length=n* w:=by rw[dW,cr]
  apply List.ext_getElem
  ·rw[cF,cH,hLl];omega
  ·intro i h4 h5
   have hx:=List.getElem?_eq_getElem h5
   have hlt:=hb _ (List.getElem_mem h5)
   have e8:=GS b i _ hx
   rw[hB]at e8
   simp only[cF,bR,List.getElem_map,List.getElem_range,eN]
   rw[←n9 b[i] 8 (by omega),←e8]
   rw[List.drop_append,List.take_append,List.drop_replicate,List.take_replicate,tD]
 ·simp at h
theorem wN(n:Int)(h:eJ n):dA (fj n)=n:=by
 obtain⟨h1,h2⟩:=h
 unfold fj dA
 by_cases h0:0≤n
 ·rw[if_pos h0,if_neg (by omega)];omega
 ·rw[if_neg h0,if_pos (by omega)];omega
theorem o9(n:Nat)(h:n<18446744073709551616):eJ (dA n):=by
 unfold dA eJ
 split<;>omega
theorem v7(n:Nat)(h:n<18446744073709551616):fj (dA n)=n:=by
 unfold dA fj
 split
 ·rw[if_neg (by omega)];omega
 ·rw[if_pos (by omega)];omega
theorem Gn(n c:Nat):Int.tdiv (n:Int) (c:Int)=((n/c:Nat):Int):=by rw[Int.tdiv_eq_ediv_of_nonneg (by omega)];rfl
theorem Gt(n c:Nat):Int.tmod (n:Int) (c:Int)=((n%c:Nat):Int):=by rw[Int.tmod_eq_emod_of_nonneg (by omega)];rfl
theorem yM(n:Nat):Int.tdiv (n:Int) 2=((n/2:Nat):Int):=Gn n 2
theorem CW(n:Nat):Int.tmod (n:Int) 2=((n%2:Nat):Int):=Gt n 2
theorem JA(n:Nat):Int.tdiv (n:Int) 128=((n/128:Nat):Int):=Gn n 128
theorem C7(n:Nat):Int.tmod (n:Int) 128=((n%128:Nat):Int):=Gt n 128
theorem Dh{n c:Nat}(h:n<18446744073709551616):IntKind.u64.wrap ((n/c:Nat):Int)=((n/c:Nat):Int):=aK _ (Nat.lt_of_le_of_lt (Nat.div_le_self _ _) h)
theorem sQ(n k:Nat):n/2^k/2=n/2^(k+1):=by rw[Nat.div_div_eq_div_mul,Nat.pow_succ]
theorem oS(n:Nat):((n:Int)=0)=(n=0):=propext ⟨fun h=>by omega,fun h=>by omega⟩
theorem Ja(n w:Nat):(n/2^w=0)=(n<2^w):=propext ⟨fun h=>by
 rcases Nat.lt_or_ge n (2^w)with h1|h1
 ·exact h1
 ·have:=Nat.div_pos h1 (Nat.two_pow_pos w);omega,fun h=>Nat.div_eq_of_lt h⟩
theorem pV(n w:Nat)(hn:n<18446744073709551616)(hw:w≤1000)(H:aa):ag Tryz.prog 174 [du n,iA w] H (.ok (bA (decide (n<2^w)))) H:=by
 refine ag.aj (hint:=(fun _=>false)) Tryz.func174 (by kernel_rfl) rfl [4] (by kernel_rfl) (by decide) (by simp[Tryz.ntmps174]) ?_
 rw[Tryz.ntmps174]
 simp -implicitDefEqProofs only[go_sem]
 refine aP (fun k s H'=>H'=H∧s 0=du (n/2^k)∧s 1=iA w∧s 5=iA k) w (by omega) (ay.refl _ _) ?_ ?_ ?_
 ·refine⟨rfl,?_⟩
  simp -implicitDefEqProofs only[↓reduceIte,go_sem,Nat.reduceLT,Nat.reduceEqDiff,reduceCtorEq,Nat.pow_zero,Nat.div_one]
 ·rintro k s H' hk hw2 ⟨rfl,t0,t1,t5⟩
  have e:=sQ n k
  have hlt:n/2^k<18446744073709551616:=Nat.lt_of_le_of_lt (Nat.div_le_self _ _) hn
  have ew:=Dh (c:=2) hlt
  rw[←e]
  generalize n/2^k=m at*
  simp -implicitDefEqProofs only[↓reduceIte,go_sem,Nat.reduceLT,Nat.reduceEqDiff,Int.reduceEq,reduceCtorEq,t0,t1,t5,hk,yM,ew]
  refine c9.same ⟨rfl,?_⟩
  simp -implicitDefEqProofs only[↓reduceIte,go_sem,Nat.reduceLT,Nat.reduceEqDiff,reduceCtorEq,t1,hw2]
 ·rintro s H' ⟨rfl,t0,t1,t5⟩
  simp -implicitDefEqProofs only[↓reduceIte,go_sem,Nat.reduceLT,Nat.reduceEqDiff,reduceCtorEq,t0,t1,t5,oS,Ja]
  refine aw.aI ?_
  simp -implicitDefEqProofs only[↓reduceIte,go_sem,Nat.reduceLT]
theorem Cc{l:List Nat}(w:Nat):cw l≤w↔∀n∈l,n<2^w:=by
 refine⟨fun h n hn=>Nat.lt_of_lt_of_le (jR n hn) (Nat.pow_le_pow_right (by decide) h),fun h=>?_⟩
 unfold cw
 rw[fO]
 have key:∀{l:List Nat},(∀n∈l,n<2^w)→∀{a:Nat},a<2^w→l.foldl (·|||·) a<2^w:=by
  intro l
  induction l with
  |nil=>exact fun _ {a} h=>h
  |cons x l ih=>exact fun h {a} ha=>ih (fun n hn=>h n (by simp[hn])) (Nat.or_lt_two_pow ha (h x (by simp)))
 exact key h (Nat.two_pow_pos w)
theorem gK(n0:Nat)(hn:n0<18446744073709551616)(H:aa):ag Tryz.prog 26 [du n0] H (.ok (.sl H.length (bp n0).length 0 (bp n0).length)) (H++[.arr 5 1 (bp n0).length (aD (bp n0))]):=by
 refine ag.aj (hint:=(fun _=>false)) Tryz.func26 (by kernel_rfl) rfl [2] (by kernel_rfl) (by decide) (by simp[Tryz.ntmps26]) ?_
 rw[Tryz.ntmps26]
 simp -implicitDefEqProofs only[go_sem]
 refine cl _ _ _ _ (fun(x:Nat×List Nat) s H'=>H'=H++[.arr 5 1 x.2.length (aD x.2)]∧x.1* 128^x.2.length≤n0∧(x.2.length=0∨0<x.1)∧bp n0=x.2++bp x.1∧s 0=du x.1∧s 3= .sl H.length x.2.length 0 x.2.length) (fun x=>x.1) (n0,[]) (ay.db _ _ 3 5 1 (by decide) (by simp -implicitDefEqProofs only[↓reduceIte,go_sem,Nat.reduceLT]) _) ?_ ?_
 ·refine⟨?_,by simp,.inl rfl,by simp,?_⟩
  ·simp -implicitDefEqProofs only[go_sem,rk,List.length_nil]
  ·simp -implicitDefEqProofs only[↓reduceIte,go_sem,reduceCtorEq,List.length_nil]
 ·rintro⟨n,bs⟩ s H' ⟨rfl,h1,h3,h2,t0,t3⟩
  simp only at h1 h2 h3 t0 t3
  have hb:bs.length<10:=by
   rcases Nat.lt_or_ge bs.length 10 with h|h
   ·exact h
   ·exfalso
    have h4:128^10≤128^bs.length:=Nat.pow_le_pow_right (by decide) h
    have h5:1* 128^bs.length≤n* 128^bs.length:=Nat.mul_le_mul_right _ (by omega)
    omega
  have hnn:n≤n0:=Nat.le_trans (Nat.le_mul_of_pos_right _ (Nat.pow_pos (by decide))) h1
  by_cases hlt:(127:Int)<(n:Int)
  ·have hpb:IntKind.u8.wrap (IntKind.u64.wrap (128+((n%128:Nat):Int)))=((n%128+128:Nat):Int):=by
    rw[show(128:Int)+((n%128:Nat):Int)=((n%128+128:Nat):Int) by omega,aK _ (by omega)]
    exact mq _ (by omega)
   have hp2:=kA (n:=n) (by omega)
   have hdw:IntKind.u64.wrap ((n/128:Nat):Int)=((n/128:Nat):Int):=aK _ (by omega)
   generalize n%128+128=m at hpb hp2
   simp -implicitDefEqProofs only[↓reduceIte,go_sem,Nat.reduceLT,Nat.reduceLeDiff,Nat.reduceEqDiff,Int.reduceEq,reduceCtorEq,t0,t3,hlt,C7,JA,hpb,ai,jD,hdw]
   refine⟨by omega,by omega,_,_,(n/128,bs++[m]),.refl _ _,⟨?_,?_,.inr (by simp only;omega),?_,?_⟩,by simp only;omega⟩
   ·simp -implicitDefEqProofs only[go_sem,List.length_append]
   ·simp only[List.length_append,List.length_singleton,Nat.pow_succ]
    have:n/128* (128^bs.length* 128)=(n/128* 128)* 128^bs.length:=by rw[Nat.mul_comm (128^_),←Nat.mul_assoc]
    rw[this]
    exact Nat.le_trans (Nat.mul_le_mul_right _ (Nat.div_mul_le_self n 128)) h1
   ·rw[h2,hp2];simp
   ·simp -implicitDefEqProofs only[↓reduceIte,go_sem,Nat.reduceLT,Nat.reduceEqDiff,reduceCtorEq,List.length_append]
  ·have hm:n%256=n:=by omega
   simp -implicitDefEqProofs only[↓reduceIte,go_sem,Nat.reduceLT,Nat.reduceLeDiff,Nat.reduceEqDiff,reduceCtorEq,t0,t3,hlt,mN,ai,hm,jD]
   have:bp n0=bs++[n]:=by rw[h2,cY (by omega)]
   rw[this,List.length_append,List.length_singleton]
   exact⟨by omega,by omega,_,ay.refl _ _,by simp -implicitDefEqProofs only[↓reduceIte,go_sem,Nat.reduceLT]⟩
theorem mI(n0:Nat)(hn:n0<18446744073709551616)(H:aa):ag Tryz.prog 26 [du n0] H (.ok (.d (.list false (aD (bp n0))))) H:=(gK n0 hn H).list (ai _)
theorem pj(n:Int)(h1:-9223372036854775808≤n)(h2:n≤9223372036854775807)(H:aa):ag Tryz.prog 141 [iA n] H (.ok (du (fj n))) H:=by
 refine ag.aj (hint:=(fun _=>false)) Tryz.func141 (by kernel_rfl) rfl [2] (by kernel_rfl) (by decide) (by simp[Tryz.ntmps141]) ?_
 rw[Tryz.ntmps141]
 by_cases h:n<0
 ·have e1:IntKind.i64.wrap (n+1)=n+1:=wrap64_in _ (by omega) (by omega)
  have e2:IntKind.i64.wrap ((0-(n+1)))=(0-(n+1)):=wrap64_in _ (by omega) (by omega)
  have e3:IntKind.u64.wrap ((0-(n+1)))=(0-(n+1)):=cg _ (by omega) (by omega)
  have e4:IntKind.u64.wrap (2* (0-(n+1)))=2* (0-(n+1)):=cg _ (by omega) (by omega)
  have e5:IntKind.u64.wrap (2* (0-(n+1))+1)=((fj n:Nat):Int):=by rw[cg _ (by omega) (by omega)];unfold fj;rw[if_neg (by omega)];omega
  simp -implicitDefEqProofs only[↓reduceIte,go_sem,Nat.reduceLT,reduceCtorEq,h,e1,e2,e3,e4,e5]
  refine aw.aI ?_
  simp -implicitDefEqProofs only[↓reduceIte,go_sem,Nat.reduceLT]
 ·have e3:IntKind.u64.wrap n=n:=cg _ (by omega) (by omega)
  have e4:IntKind.u64.wrap (2* n)=((fj n:Nat):Int):=by rw[cg _ (by omega) (by omega)];unfold fj;rw[if_pos (by omega)];omega
  simp -implicitDefEqProofs only[↓reduceIte,go_sem,Nat.reduceLT,reduceCtorEq,h,e3,e4]
  refine aw.aI ?_
  simp -implicitDefEqProofs only[↓reduceIte,go_sem,Nat.reduceLT]
theorem pf(n:Nat)(hn:n<18446744073709551616)(H:aa):ag Tryz.prog 128 [du n] H (.ok (iA (dA n))) H:=by
 have e0:IntKind.u64.wrap ((n%2:Nat):Int)=((n%2:Nat):Int):=aK _ (by omega)
 have e1:IntKind.u64.wrap ((n/2:Nat):Int)=((n/2:Nat):Int):=aK _ (by omega)
 have e2:IntKind.i64.wrap ((n/2:Nat):Int)=((n/2:Nat):Int):=wrap64_in _ (by omega) (by omega)
 refine ag.aj (hint:=(fun _=>false)) Tryz.func128 (by kernel_rfl) rfl [2] (by kernel_rfl) (by decide) (by simp[Tryz.ntmps128]) ?_
 rw[Tryz.ntmps128]
 by_cases h:n%2=1
 ·have h':(((n%2:Nat):Int)=1)=True:=eq_true (by omega)
  have e3:IntKind.i64.wrap (0-((n/2:Nat):Int))=0-((n/2:Nat):Int):=wrap64_in _ (by omega) (by omega)
  have e4:IntKind.i64.wrap (0-((n/2:Nat):Int)-1)=dA n:=by rw[wrap64_in _ (by omega) (by omega)];unfold dA;rw[if_pos h];omega
  generalize hx:((n/2:Nat):Int)=x at*
  generalize hm:((n%2:Nat):Int)=m at*
  simp -implicitDefEqProofs only[↓reduceIte,go_sem,Nat.reduceLT,Int.reduceEq,reduceCtorEq,CW,yM,e1,e2,e3,e4,h',hm,hx]
  refine aw.aI ?_
  simp -implicitDefEqProofs only[↓reduceIte,go_sem,Nat.reduceLT]
 ·have h':(((n%2:Nat):Int)=1)=False:=eq_false (by omega)
  have e4:dA n=((n/2:Nat):Int):=by unfold dA;rw[if_neg h]
  simp -implicitDefEqProofs only[↓reduceIte,go_sem,Nat.reduceLT,Int.reduceEq,reduceCtorEq,CW,yM,e1,e2,h']
  refine aw.aI ?_
  simp -implicitDefEqProofs only[↓reduceIte,go_sem,Nat.reduceLT,e4]
def kL(l:List Bool):List (List D):=l.map fun b=>[.v (.bool b)]
theorem jk(l:List (List D))(n:Nat)(h:l.length=n):l.take n=l:=List.take_of_length_le (by omega)
theorem ep(l:List Bool):(kL l).length=l.length:=by simp[kL]
theorem wB(l:List Bool)(k:Nat)(h:k<l.length):(kL l)[k]?=some [.v (.bool l[k])]:=by simp[kL,h]
theorem Av(l:List Bool)(b:Bool):kL l++[[.v (.bool b)]]=kL (l++[b]):=by simp[kL]
theorem Dl(l:List Bool):(∀c∈kL l,c.length=1)=True:=eq_true fun c hc=>by obtain⟨x,_,rfl⟩:=List.mem_map.1 hc;rfl
theorem zt(l:List Bool)(k:Nat):(kL l).drop k=kL (l.drop k):=by simp[kL,List.map_drop]
theorem CF(k:Nat)(h:(k+1)%8≠0):IntKind.u8.wrap (((2^(k%8):Nat):Int)* 2)=((2^((k+1)%8):Nat):Int):=by
 rw[show(k+1)%8=k%8+1 by omega,Nat.pow_succ]
 have h2:2^(k%8)≤2^6:=Nat.pow_le_pow_right (by decide) (by omega)
 have h3:((2^(k%8):Nat):Int)* 2=((2^(k%8)* 2:Nat):Int):=by push_cast;rfl
 rw[h3]
 exact mP _ (by omega) (by omega)
theorem GC(R:List Nat)(i B:Nat)(h:R[i]?=some B):R.set i B=R:=by
 refine List.ext_getElem? fun j=>?_
 by_cases hj:i=j
 ·subst hj
  rw[List.getElem?_set_self (List.getElem?_eq_some_iff.1 h).1,h]
 ·rw[List.getElem?_set_ne hj]
theorem IF(l:List Bool):IntKind.u8.wrap (((eN l (l.length/8):Nat):Int)+((2^(l.length%8):Nat):Int))=((eN l (l.length/8)+2^(l.length%8):Nat):Int):=by
 have h1:=l7 l
 have h2:2^(l.length%8)≤2^7:=Nat.pow_le_pow_right (by decide) (by omega)
 exact mP _ (by omega) (by omega)
theorem qa(l:List Bool)(nn:Bool)(hl:l.length≤100000000)(H:aa):ag Tryz.prog 140 [.d (.list nn (kL l))] H (.ok (.d (.list false (aD (bR l))))) H:=by
 refine ag.aj (hint:=(fun _=>false)) Tryz.func140 (by kernel_rfl) rfl [2] (by kernel_rfl) (by decide) (by simp[Tryz.ntmps140]) ?_
 rw[Tryz.ntmps140]
 simp -implicitDefEqProofs only[go_sem]
 refine aP (fun k s H'=>H'=H++[.arr 5 1 (bR (l.take k)).length (aD (bR (l.take k)))]∧(∃wt:Int,s 4= .d (.v (.int .u8 wt))∧(k%8≠0→wt=((2^(k%8):Nat):Int)))∧s 0= .d (.list nn (kL l))∧s 3= .sl H.length (bR (l.take k)).length 0 (bR (l.take k)).length∧s 5=iA k) l.length (by omega) (ay.db _ _ 3 5 1 (by decide) (by simp -implicitDefEqProofs only[↓reduceIte,go_sem,Nat.reduceLT,Nat.reduceEqDiff]) _) ?_ ?_ ?_
 ·rw[show bR (l.take 0)=[]from by rw[List.take_zero];rfl]
  refine⟨rfl,⟨1,?_,fun h=>absurd rfl h⟩,?_⟩
  ·simp -implicitDefEqProofs only[↓reduceIte,go_sem,Nat.reduceLT,Nat.reduceEqDiff]
  ·simp -implicitDefEqProofs only[↓reduceIte,go_sem,Nat.reduceLT,Nat.reduceEqDiff,reduceCtorEq,List.length_nil]
 ·rintro k s H' hk hw ⟨rfl,⟨wt,t4,hwt⟩,t0,t3,t5⟩
  have hx:=wB l k hk
  have hs:=si (l.take k) l[k]
  rw[←List.take_succ_eq_append_getElem hk]at hs
  have hkl:(l.take k).length=k:=by rw[List.length_take];omega
  have hg:=uv (l.take k)
  have hrl:=vu (l.take k)
  have hsum:=IF (l.take k)
  have hwn:=CF k
  have hfull:k%8=0→fA (l.take k)=bR (l.take k)++[0]:=fun h=>nE (by rw[hkl];exact h)
  have hpart:¬k%8=0→fA (l.take k)=bR (l.take k):=fun h=>rA (by rw[hkl];exact h)
  have hpl:=cH (l.take k)
  rw[hkl]at hs hg hrl hsum hpl
  have hlen2:(bR (l.take (k+1))).length=(fA (l.take k)).length:=by rw[hs,List.length_set]
  generalize bR (l.take (k+1))=P2 at*
  generalize bR (l.take k)=P at*
  generalize fA (l.take k)=R at*
  generalize hB:eN (l.take k) (k/8)=B at*
  generalize l[k]=b at*
  clear hB
  have hget:(aD R)[k/8]?=some [.v (.int .u8 (B:Int))]:=by unfold aD;rw[List.getElem?_map,hg];rfl
  have hlt:k/8<R.length:=by omega
  have hset:∀m:Nat,(aD R).set (k/8) [.v (.int .u8 (m:Int))]=aD (R.set (k/8) m):=fun m=>C1 R _ m
  generalize hW:((2^(k%8):Nat):Int)=W at*
  have hset2:(aD R).set (k/8) [.v (.int .u8 ((B:Int)+((2^(k%8):Nat):Int)))]=aD (R.set (k/8) (B+2^(k%8))):=by have:=hset (B+2^(k%8));push_cast at this⊢;exact this
  have e0:b=false→P2=R:=fun h=>by rw[hs,h];simp only[Bool.toNat_false,Nat.zero_mul,Nat.add_zero];exact GC R _ B hg
  have e1:b=true→P2=R.set (k/8) (B+2^(k%8)):=fun h=>by rw[hs,h];simp
  have w8:IntKind.i64.wrap ((k/8:Nat):Int)=((k/8:Nat):Int):=yJ _ (by omega)
  have hne:(k+1)%8≠0→(k+1)%8≠0:=id
  generalize hV:((2^((k+1)%8):Nat):Int)=V at*
  generalize hU:IntKind.u8.wrap (W* 2)=U at*
  by_cases h8:k%8=0
  ·have hR:=hfull h8
   have q0:aD P++[[.v (.int .u8 0)]]=aD R:=by rw[hR];exact jD P 0
   have hPR:P.length+1=R.length:=by rw[hR];simp
   have hPI:(P.length:Int)+1=(R.length:Int):=by omega
   have hW1:W=1:=by rw[←hW,h8];rfl
   subst hW1
   rw[show(1:Int)* 2=2 from rfl]at hU
   cases b with
   |true=>
    have e1:=e1 rfl
    generalize 2^(k%8)=m at*
    simp -implicitDefEqProofs only[↓reduceIte,go_sem,Nat.reduceLT,Nat.reduceLeDiff,Nat.reduceEqDiff,Int.reduceEq,reduceCtorEq,t0,t3,t5,vE,Gf,eq_true h8,ep,hk,hx,oS,ai,q0]
    refine⟨by omega,by omega,?_⟩
    simp -implicitDefEqProofs only[↓reduceIte,go_sem,ah,au,Nat.reduceLT,Nat.reduceEqDiff,Int.reduceMul,t5,hlt,hPR,hPI,hget,hsum,w8,hU]
    refine c9.same ⟨?_,⟨_,rfl,hwn⟩,?_⟩
    ·simp -implicitDefEqProofs only[go_sem,e1,hset2,List.length_set]
    ·simp -implicitDefEqProofs only[↓reduceIte,go_sem,Nat.reduceLT,Nat.reduceEqDiff,reduceCtorEq,t0,hw,hlen2]
   |false=>
    have e0:=e0 rfl
    simp -implicitDefEqProofs only[↓reduceIte,go_sem,Nat.reduceLT,Nat.reduceLeDiff,Nat.reduceEqDiff,Int.reduceEq,Int.reduceMul,reduceCtorEq,t0,t3,t5,vE,eq_true h8,ep,hk,hx,oS,ai,q0]
    refine⟨by omega,by omega,?_⟩
    simp -implicitDefEqProofs only[go_sem,hPR,hU]
    refine c9.same ⟨?_,⟨_,rfl,hwn⟩,?_⟩
    ·simp -implicitDefEqProofs only[go_sem,e0]
    ·simp -implicitDefEqProofs only[↓reduceIte,go_sem,Nat.reduceLT,Nat.reduceEqDiff,reduceCtorEq,t0,hw,e0]
  ·have hR:=hpart h8
   have hW2:=hwt h8
   subst hW2
   rw[←hR]
   cases b with
   |true=>
    have e1:=e1 rfl
    generalize 2^(k%8)=m at*
    simp -implicitDefEqProofs only[↓reduceIte,go_sem,ah,au,Nat.reduceLT,Nat.reduceEqDiff,Int.reduceEq,reduceCtorEq,t0,t3,t4,t5,vE,Gf,eq_false h8,ep,hk,hx,oS,←hR,hlt,hget,hsum,w8,hU]
    refine c9.same ⟨?_,⟨_,rfl,hwn⟩,?_⟩
    ·simp -implicitDefEqProofs only[go_sem,e1,hset2,List.length_set]
    ·simp -implicitDefEqProofs only[↓reduceIte,go_sem,Nat.reduceLT,Nat.reduceEqDiff,reduceCtorEq,t0,hw,t3,hlen2,hR]
   |false=>
    have e0:=e0 rfl
    simp -implicitDefEqProofs only[↓reduceIte,go_sem,Nat.reduceLT,Nat.reduceEqDiff,Int.reduceEq,reduceCtorEq,t0,t4,t5,vE,eq_false h8,ep,hk,hx,oS,hU]
    refine c9.same ⟨?_,⟨_,rfl,hwn⟩,?_⟩
    ·simp -implicitDefEqProofs only[go_sem,e0]
    ·simp -implicitDefEqProofs only[↓reduceIte,go_sem,Nat.reduceLT,Nat.reduceEqDiff,reduceCtorEq,t0,hw,t3,e0,hR]
 ·rintro s H' ⟨rfl,⟨wt,t4,hwt⟩,t0,t3,t5⟩
  rw[show l.take l.length=l from List.take_length]at*
  simp -implicitDefEqProofs only[↓reduceIte,go_sem,Nat.reduceLT,Nat.reduceEqDiff,reduceCtorEq,t0,t3,t5,ep]
  refine aw.ret ?_
  simp -implicitDefEqProofs only[↓reduceIte,go_sem,Nat.reduceLT,jk (aD (bR l)) (bR l).length (ai _)]
theorem Db(n j:Nat):(((n/2^j%2:Nat):Int)=1)=(n.testBit j=true):=by
 rw[Nat.testBit_eq_decide_div_mod_eq]
 refine propext ⟨fun h=>?_,fun h=>?_⟩
 ·exact decide_eq_true (by omega)
 ·have:=of_decide_eq_true h;omega
theorem rN(l:List Nat)(w:Nat)(hw:w≤64)(hu:∀n∈l,n<18446744073709551616)(hn:∀n∈l,n<2^w)(hl:l.length≤1000000)(nn:Bool)(H:aa):
  ag Tryz.prog 168 [.d (.list nn (us l)),iA w] H (.ok (.bz [.d (.list false (aD (cF l w))),iA 0])) H:=by
 have hbl:=dW l w
 have hlw:l.length* w≤1000000* 64:=Nat.mul_le_mul hl hw
 refine ag.aj (hint:=(fun _=>false)) Tryz.func168 (by kernel_rfl) rfl [4,5] (by kernel_rfl) (by decide) (by simp[Tryz.ntmps168]) ?_
 rw[Tryz.ntmps168]
 simp -implicitDefEqProofs only[↓reduceIte,go_sem,Nat.reduceLT,Nat.reduceEqDiff,reduceCtorEq,show((w:Int)<0)=False from eq_false (by omega),show((64:Int)<(w:Int))=False from eq_false (by omega)]
 refine aP (fun k s H'=>H'=H++[.arr 4 1 (dp (l.take k) w).length (kL (dp (l.take k) w))]∧s 0= .d (.list nn (us l))∧s 1=iA w∧s 6= .sl H.length (dp (l.take k) w).length 0 (dp (l.take k) w).length∧s 7=iA k) l.length (by omega) (ay.db _ _ 6 4 1 (by decide) (by simp -implicitDefEqProofs only[↓reduceIte,go_sem,Nat.reduceLT,Nat.reduceEqDiff]) _) ?_ ?_ ?_
 ·rw[show dp (l.take 0) w=[]from by rw[List.take_zero];rfl]
  refine⟨rfl,?_⟩
  simp -implicitDefEqProofs only[↓reduceIte,go_sem,Nat.reduceLT,Nat.reduceEqDiff,reduceCtorEq,List.length_nil]
 ·rintro k s H' hk hwk ⟨rfl,t0,t1,t6,t7⟩
  have hx:=iO l k hk
  have hf:=hn _ (List.getElem_mem hk)
  have hxu:=hu _ (List.getElem_mem hk)
  have e1:dp (l.take (k+1)) w=dp (l.take k) w++ca l[k] w:=by rw[List.take_succ_eq_append_getElem hk];exact nx _ _ _
  have hB:=dW (l.take k) w
  rw[List.length_take,Nat.min_eq_left (Nat.le_of_lt hk)]at hB
  have hkw:k* w≤l.length* w:=Nat.mul_le_mul_right _ (by omega)
  rw[e1]
  generalize dp (l.take k) w=B at*
  generalize l[k]=x at*
  simp -implicitDefEqProofs only[↓reduceIte,go_sem,Nat.reduceLT,Nat.reduceEqDiff,reduceCtorEq,t0,t1,t7,cT,hk,hx]
  refine ae.ok (pV x w hxu (by omega) _) ?_
  simp -implicitDefEqProofs only[↓reduceIte,go_sem,Nat.reduceLT,Nat.reduceEqDiff,reduceCtorEq,hf,t0,t7,hx]
  refine aP (fun j s H'=>H'=H++[.arr 4 1 (B++ca x j).length (kL (B++ca x j))]∧s 0= .d (.list nn (us l))∧s 1=iA w∧s 6= .sl H.length (B++ca x j).length 0 (B++ca x j).length∧s 7=iA k∧s 8=du (x/2^j)∧s 9=iA j) w (by omega) (ay.refl _ _) ?_ ?_ ?_
  ·rw[show B++ca x 0=B from List.append_nil _]
   refine⟨rfl,?_⟩
   simp -implicitDefEqProofs only[↓reduceIte,go_sem,Nat.reduceLT,Nat.reduceEqDiff,reduceCtorEq,t0,t1,t6,t7,Nat.pow_zero,Nat.div_one]
  ·rintro j s H' hj hw2 ⟨rfl,t0,t1,t6,t7,t8,t9⟩
   have e:=sQ x j
   have hlt:x/2^j<18446744073709551616:=Nat.lt_of_le_of_lt (Nat.div_le_self _ _) hxu
   have ew:=Dh (c:=2) hlt
   have hb:=Db x j
   have es:B++ca x (j+1)=(B++ca x j)++[x.testBit j]:=by rw[nC,List.append_assoc]
   have hBl:(B++ca x j).length=B.length+j:=by rw[List.length_append,eo]
   rw[←e,es]
   generalize x/2^j=m at*
   generalize B++ca x j=C at*
   generalize x.testBit j=b at*
   simp -implicitDefEqProofs only[↓reduceIte,go_sem,Nat.reduceLT,Nat.reduceLeDiff,Nat.reduceEqDiff,Int.reduceEq,t1,t6,t8,t9,hj,CW,yM,ew,hb,ep,Bool.decide_eq_true,Av]
   refine⟨by omega,by omega,?_⟩
   refine c9.same ⟨?_,?_⟩
   ·simp -implicitDefEqProofs only[go_sem]
   ·simp -implicitDefEqProofs only[↓reduceIte,go_sem,Nat.reduceLT,Nat.reduceEqDiff,reduceCtorEq,t0,t1,t7,hw2]
  ·rintro s H' ⟨rfl,t0,t1,t6,t7,t8,t9⟩
   simp -implicitDefEqProofs only[↓reduceIte,go_sem,Nat.reduceLT,Nat.reduceEqDiff,t1,t7,t9]
   refine c9.same ⟨rfl,?_⟩
   simp -implicitDefEqProofs only[↓reduceIte,go_sem,Nat.reduceLT,Nat.reduceEqDiff,reduceCtorEq,t0,t1,t6,hwk]
 ·rintro s H' ⟨rfl,t0,t1,t6,t7⟩
  rw[show l.take l.length=l from List.take_length]at*
  have hrb:=fun H=>qa (dp l w) false (by omega) H
  generalize hB:dp l w=B at*
  have htk:((kL B).drop 0).take B.length=kL B:=by rw[List.drop_zero];exact jk _ _ (ep _)
  simp -implicitDefEqProofs only[↓reduceIte,go_sem,Nat.reduceLT,Nat.reduceEqDiff,reduceCtorEq,t0,t6,t7,cT]
  refine ae.sx [] (e:=4) (k:=1) (ver:=B.length) (es:=kL B) (by simp) (by rw[htk];exact hrb _) ?_
  have hp:cF l w=bR B:=by unfold cF;rw[hB]
  simp -implicitDefEqProofs only[↓reduceIte,go_sem,Nat.reduceLT]
  refine aw.LH (T:=[.arr 4 1 (B.length+1) []]) (by simp) ?_
  simp -implicitDefEqProofs only[↓reduceIte,go_sem,Nat.reduceLT,Nat.reduceEqDiff,hp]
theorem Bm(b:List Nat)(nn:Bool)(hl:b.length≤100000000)(hb:∀c∈b,c<256)(H:aa):ag Tryz.prog 158 [.d (.list nn (aD b))] H (.ok (.d (.list false (kL (cK b))))) H:=by
 refine ag.aj (hint:=(fun _=>false)) Tryz.func158 (by kernel_rfl) rfl [2] (by kernel_rfl) (by decide) (by simp[Tryz.ntmps158]) ?_
 rw[Tryz.ntmps158]
 simp -implicitDefEqProofs only[go_sem]
 refine aP (fun k s H'=>H'=H++[.arr 4 1 (cK (b.take k)).length (kL (cK (b.take k)))]∧s 0= .d (.list nn (aD b))∧s 3= .sl H.length (cK (b.take k)).length 0 (cK (b.take k)).length∧s 4=iA k) b.length (by omega) (ay.db _ _ 3 4 1 (by decide) (by simp -implicitDefEqProofs only[↓reduceIte,go_sem,Nat.reduceLT,Nat.reduceEqDiff]) _) ?_ ?_ ?_
 ·rw[show cK (b.take 0)=[]from by rw[List.take_zero];rfl]
  refine⟨rfl,?_⟩
  simp -implicitDefEqProofs only[↓reduceIte,go_sem,Nat.reduceLT,Nat.reduceEqDiff,reduceCtorEq,List.length_nil]
 ·rintro k s H' hk hwk ⟨rfl,t0,t3,t4⟩
  have hx:=ow b k hk
  have hxu:=hb _ (List.getElem_mem hk)
  have e1:cK (b.take (k+1))=cK (b.take k)++ca b[k] 8:=by unfold cK;rw[List.take_succ_eq_append_getElem hk,List.flatMap_append];simp
  have hB:=gY (b.take k)
  rw[List.length_take,Nat.min_eq_left (Nat.le_of_lt hk)]at hB
  rw[e1]
  generalize cK (b.take k)=B at*
  generalize b[k]=x at*
  simp -implicitDefEqProofs only[↓reduceIte,go_sem,Nat.reduceLT,Nat.reduceEqDiff,reduceCtorEq,t0,t4,ai,hk,hx]
  refine aP (fun j s H'=>H'=H++[.arr 4 1 (B++ca x j).length (kL (B++ca x j))]∧s 0= .d (.list nn (aD b))∧s 3= .sl H.length (B++ca x j).length 0 (B++ca x j).length∧s 4=iA k∧s 5= .d (.v (.int .u8 ((x/2^j:Nat):Int)))∧s 6=iA j) 8 (by omega) (ay.refl _ _) ?_ ?_ ?_
  ·rw[show B++ca x 0=B from List.append_nil _]
   refine⟨rfl,?_⟩
   simp -implicitDefEqProofs only[↓reduceIte,go_sem,Nat.reduceLT,Nat.reduceEqDiff,reduceCtorEq,t0,t3,t4,Nat.pow_zero,Nat.div_one]
  ·rintro j s H' hj hw2 ⟨rfl,t0,t3,t4,t5,t6⟩
   have hj':((j:Int)<8)=True:=eq_true (by omega)
   have e:=sQ x j
   have hlt:x/2^j<256:=Nat.lt_of_le_of_lt (Nat.div_le_self _ _) hxu
   have ew:IntKind.u8.wrap ((x/2^j/2:Nat):Int)=((x/2^j/2:Nat):Int):=mq _ (by omega)
   have hb:=Db x j
   have es:B++ca x (j+1)=(B++ca x j)++[x.testBit j]:=by rw[nC,List.append_assoc]
   have hBl:(B++ca x j).length=B.length+j:=by rw[List.length_append,eo]
   rw[←e,es]
   generalize x/2^j=m at*
   generalize B++ca x j=C at*
   generalize x.testBit j=t at*
   simp -implicitDefEqProofs only[↓reduceIte,go_sem,Nat.reduceLT,Nat.reduceLeDiff,Nat.reduceEqDiff,Int.reduceEq,t3,t5,t6,hj',CW,yM,ew,hb,ep,Bool.decide_eq_true,Av]
   refine⟨by omega,by omega,?_⟩
   refine c9.same ⟨?_,?_⟩
   ·simp -implicitDefEqProofs only[go_sem]
   ·simp -implicitDefEqProofs only[↓reduceIte,go_sem,Nat.reduceLT,Nat.reduceEqDiff,reduceCtorEq,t0,t4,hw2]
  ·rintro s H' ⟨rfl,t0,t3,t4,t5,t6⟩
   simp -implicitDefEqProofs only[↓reduceIte,go_sem,Nat.reduceLT,Nat.reduceEqDiff,Int.reduceLT,t4,t6]
   refine c9.same ⟨rfl,?_⟩
   simp -implicitDefEqProofs only[↓reduceIte,go_sem,Nat.reduceLT,Nat.reduceEqDiff,reduceCtorEq,t0,t3,hwk]
 ·rintro s H' ⟨rfl,t0,t3,t4⟩
  rw[show b.take b.length=b from List.take_length]at*
  simp -implicitDefEqProofs only[↓reduceIte,go_sem,Nat.reduceLT,Nat.reduceEqDiff,reduceCtorEq,t0,t3,t4,ai]
  refine aw.ret ?_
  simp -implicitDefEqProofs only[↓reduceIte,go_sem,Nat.reduceLT,jk (kL (cK b)) (cK b).length (ep _)]
theorem Au(L:List Bool)(i:Nat)(h:i<L.length):byteOf (L.drop i)=L[i].toNat+2* byteOf (L.drop (i+1)):=by
 rw[List.drop_eq_getElem_cons h];rfl
theorem BF(r:List Bool)(w:Nat)(nn:Bool)(hw:w≤64)(hr:w≤r.length)(hl:r.length≤9007199254740992)(H:aa):
  ag Tryz.prog 159 [.d (.list nn (kL r)),iA w] H (.ok (.bz [du (byteOf (r.take w)),.d (.list false (kL (r.drop w))),iA 0])) H:=by
 refine ag.aj (hint:=(fun _=>false)) Tryz.func159 (by kernel_rfl) rfl [4,5,6] (by kernel_rfl) (by decide) (by simp[Tryz.ntmps159]) ?_
 rw[Tryz.ntmps159]
 simp -implicitDefEqProofs only[↓reduceIte,go_sem,Nat.reduceLT,Nat.reduceEqDiff,reduceCtorEq,show((w:Int)<0)=False from eq_false (by omega),show((64:Int)<(w:Int))=False from eq_false (by omega),ep,show((r.length:Int)<(w:Int))=False from eq_false (by omega)]
 have w0:IntKind.i64.wrap ((w:Int)-1)=(w:Int)-1:=wrap64_in _ (by omega) (by omega)
 refine aP (fun k s H'=>H'=H∧s 0= .d (.list nn (kL r))∧s 1=iA w∧s 7=du (byteOf ((r.take w).drop (w-k)))∧s 8=iA ((w:Int)-1-k)) w (by omega) (ay.refl _ _) ?_ ?_ ?_
 ·have e:byteOf ((r.take w).drop (w-0))=0:=by rw[List.drop_of_length_le (by rw[List.length_take];omega)];rfl
  rw[e,show(w:Int)-1-((0:Nat):Int)=(w:Int)-1 by omega]
  refine⟨rfl,?_⟩
  simp -implicitDefEqProofs only[↓reduceIte,go_sem,Nat.reduceLT,Nat.reduceEqDiff,reduceCtorEq,w0]
  rfl
 ·rintro k s H' hk hw2 ⟨rfl,t0,t1,t7,t8⟩
  obtain⟨i,hi⟩:∃i,i=w-1-k:=⟨_,rfl⟩
  have h1:w-k=i+1:=by omega
  have h2:w-(k+1)=i:=by omega
  have h3:(w:Int)-1-k=(i:Int):=by omega
  have h4:(w:Int)-1-((k+1:Nat):Int)=(i:Int)-1:=by omega
  have h5:IntKind.i64.wrap ((i:Int)-1)=(i:Int)-1:=wrap64_in _ (by omega) (by omega)
  have hri:i<r.length:=by omega
  have hti:i<(r.take w).length:=by rw[List.length_take];omega
  have e:=Au (r.take w) i hti
  rw[List.getElem_take]at e
  have hlt:=jh ((r.take w).drop i)
  have hlt2:(2:Nat)^((r.take w).drop i).length≤2^64:=Nat.pow_le_pow_right (by decide) (by simp;omega)
  rw[e]at hlt
  rw[h1]at t7
  rw[h3]at t8
  rw[h2,h4,e]
  have hx:=wB r i hri
  generalize r[i]=b at*
  generalize byteOf ((r.take w).drop (i+1))=m at*
  have e2:IntKind.u64.wrap (2* (m:Int))=((2* m:Nat):Int):=by rw[show(2:Int)* (m:Int)=((2* m:Nat):Int) by omega];exact aK _ (by omega)
  have e3:IntKind.u64.wrap (((2* m:Nat):Int)+1)=((1+2* m:Nat):Int)∨b=false:=by
   cases b
   ·exact .inr rfl
   ·left
    simp only[Bool.toNat_true]at hlt
    rw[show((2* m:Nat):Int)+1=((1+2* m:Nat):Int) by omega];exact aK _ (by omega)
  generalize hm2:((2* m:Nat):Int)=M at*
  cases b with
  |true=>
   rcases e3 with e3|e3
   ·simp -implicitDefEqProofs only[↓reduceIte,go_sem,Nat.reduceLT,Nat.reduceEqDiff,reduceCtorEq,t0,t7,t8,hx,e2,e3,h5]
    refine c9.same ⟨rfl,?_⟩
    simp -implicitDefEqProofs only[↓reduceIte,go_sem,Nat.reduceLT,Nat.reduceEqDiff,reduceCtorEq,t0,t1,Bool.toNat_true]
    exact congrArg (fun z=>AV.d (D.v (Value.int .u64 z))) (by omega)
   ·cases e3
  |false=>
   simp -implicitDefEqProofs only[↓reduceIte,go_sem,Nat.reduceLT,Nat.reduceEqDiff,reduceCtorEq,t0,t7,t8,hx,e2,h5]
   refine c9.same ⟨rfl,?_⟩
   simp -implicitDefEqProofs only[↓reduceIte,go_sem,Nat.reduceLT,Nat.reduceEqDiff,reduceCtorEq,t0,t1,Bool.toNat_false,Nat.zero_add]
   exact congrArg (fun z=>AV.d (D.v (Value.int .u64 z))) (by omega)
 ·rintro s H' ⟨rfl,t0,t1,t7,t8⟩
  rw[Nat.sub_self,List.drop_zero]at t7
  have h3:(w:Int)-1-(w:Int)=-1:=by omega
  rw[h3]at t8
  simp -implicitDefEqProofs only[↓reduceIte,go_sem,Nat.reduceLT,Int.reduceLE,Int.reduceNeg,t8]
  refine aO K.mixed (by kernel_rfl) ?_
  simp -implicitDefEqProofs only[↓reduceIte,go_sem,Nat.reduceLT,Nat.reduceEqDiff,Int.reduceNeg,reduceCtorEq,t0,t1,t7,Dl,ep,hr]
  refine aw.aI ?_
  simp -implicitDefEqProofs only[↓reduceIte,go_sem,Nat.reduceLT,Nat.reduceEqDiff,Int.reduceNeg,jk (kL r) r.length (ep _),zt]
theorem lq:∀l:List Bool,byteOf l=0↔∀b∈l,b=false
 |[]=>by simp[byteOf]
 |b::r=>by
  have:=lq r
  simp only[byteOf,List.mem_cons,forall_eq_or_imp,←this]
  cases b<;>simp
  omega
theorem qB(k w n:Nat)(hk:k≤n)(hn:n≤1048576)(hw:w≤64):IntKind.i64.wrap ((k:Int)* (w:Int))=((k* w:Nat):Int):=by
 have h1:k* w≤1048576* 64:=Nat.mul_le_mul (by omega) hw
 rw[show(k:Int)* (w:Int)=((k* w:Nat):Int) by push_cast;rfl]
 exact yJ _ (by omega)
theorem kT(b:List Nat)(n w:Nat)(nn:Bool)(hl:b.length≤140737488351232)(hb:∀c∈b,c<256)(hn:n≤1048576)(hw:w≤64)(H:aa):
  ag Tryz.prog 127 [.d (.list nn (aD b)),iA n,iA w] H (.ok (.bz [eF b n w,iA (bq b n w)])) H:=by
 have hnw:n* w≤1048576* 64:=Nat.mul_le_mul hn hw
 have m1:=qB n w n (Nat.le_refl _) hn hw
 have m2:IntKind.i64.wrap (8* (b.length:Int))=((8* b.length:Nat):Int):=by rw[wrap64_in _ (by omega) (by omega)];omega
 have m3:IntKind.i64.wrap (((8* b.length:Nat):Int)-((n* w:Nat):Int))=((8* b.length:Nat):Int)-((n* w:Nat):Int):=wrap64_in _ (by omega) (by omega)
 have hBl:=gY b
 have hE:bq b n w=if 8* b.length<n* w then 3 else if n* w+8≤8* b.length then 4 else if byteOf ((cK b).drop (n* w))=0 then 0 else 4:=rfl
 refine ag.aj (hint:=(fun _=>false)) Tryz.func127 (by kernel_rfl) rfl [6,7] (by kernel_rfl) (by decide) (by simp[Tryz.ntmps127]) ?_
 rw[Tryz.ntmps127]
 generalize hN:n* w=N at*
 generalize hT:8* b.length=T at*
 by_cases h1:T<N
 ·rw[if_pos h1]at hE
  simp -implicitDefEqProofs only[↓reduceIte,go_sem,Nat.reduceLT,Nat.reduceEqDiff,reduceCtorEq,show((n:Int)<0)=False from eq_false (by omega),show((1048576:Int)<(n:Int))=False from eq_false (by omega),show((w:Int)<0)=False from eq_false (by omega),show((64:Int)<(w:Int))=False from eq_false (by omega),ai,m1,m2,show((T:Int)<(N:Int))=True from eq_true (by omega)]
  refine aw.aI ?_
  simp -implicitDefEqProofs only[↓reduceIte,go_sem,Nat.reduceLT,Nat.reduceEqDiff,Int.reduceEq,hE,eF]
 rw[if_neg h1]at hE
 by_cases h2:N+8≤T
 ·rw[if_pos h2]at hE
  simp -implicitDefEqProofs only[↓reduceIte,go_sem,Nat.reduceLT,Nat.reduceEqDiff,reduceCtorEq,show((n:Int)<0)=False from eq_false (by omega),show((1048576:Int)<(n:Int))=False from eq_false (by omega),show((w:Int)<0)=False from eq_false (by omega),show((64:Int)<(w:Int))=False from eq_false (by omega),ai,m1,m2,m3,show((T:Int)<(N:Int))=False from eq_false (by omega),show((8:Int)≤(T:Int)-(N:Int))=True from eq_true (by omega)]
  refine aw.aI ?_
  simp -implicitDefEqProofs only[↓reduceIte,go_sem,Nat.reduceLT,Nat.reduceEqDiff,Int.reduceEq,hE,eF]
 rw[if_neg h2]at hE
 simp -implicitDefEqProofs only[↓reduceIte,go_sem,Nat.reduceLT,Nat.reduceEqDiff,reduceCtorEq,show((n:Int)<0)=False from eq_false (by omega),show((1048576:Int)<(n:Int))=False from eq_false (by omega),show((w:Int)<0)=False from eq_false (by omega),show((64:Int)<(w:Int))=False from eq_false (by omega),ai,m1,m2,m3,show((T:Int)<(N:Int))=False from eq_false (by omega),show((8:Int)≤(T:Int)-(N:Int))=False from eq_false (by omega)]
 refine ae.ok (Bm b nn (by omega) hb H) ?_
 simp -implicitDefEqProofs only[↓reduceIte,go_sem,Nat.reduceLT]
 have hpart:∀k,uM b w k=byteOf (((cK b).drop (k* w)).take w):=fun k=>rfl
 generalize cK b=r at*
 refine aP (fun k s H'=>H'=H++[.arr 49 1 k (us (bG b k w))]∧s 1=iA n∧s 2=iA w∧s 8= .d (.list false (kL r))∧s 9= .sl H.length k 0 k∧s 10=iA k) n (by omega) (ay.db _ _ 9 49 1 (by decide) (by simp -implicitDefEqProofs only[↓reduceIte,go_sem,Nat.reduceLT,Nat.reduceEqDiff]) _) ?_ ?_ ?_
 ·refine⟨rfl,?_⟩
  simp -implicitDefEqProofs only[↓reduceIte,go_sem,Nat.reduceLT,Nat.reduceEqDiff]
 ·rintro k s H' hk hwk ⟨rfl,t1,t2,t8,t9,t10⟩
  have mk:=qB k w n (by omega) hn hw
  have hkw:(k+1)* w≤n* w:=Nat.mul_le_mul_right _ hk
  rw[Nat.add_mul,Nat.one_mul]at hkw
  have e1:=lu b k w
  have el:=cr b k w
  rw[hpart]at e1
  rw[e1]
  generalize bG b k w=L at*
  have hget:=fun H=>BF (r.drop (k* w)) w false hw (by rw[List.length_drop];omega) (by rw[List.length_drop];omega) H
  generalize byteOf ((r.drop (k* w)).take w)=x at*
  simp -implicitDefEqProofs only[↓reduceIte,go_sem,Nat.reduceLT,Nat.reduceEqDiff,t1,t2,t8,t10,hk,mk,Dl,ep,show k* w≤r.length from by omega,jk (kL r) r.length (ep _),zt]
  refine ae.ok (hget _) ?_
  simp -implicitDefEqProofs only[↓reduceIte,go_sem,Nat.reduceLT,Nat.reduceLeDiff,Nat.reduceEqDiff,t9,t10,cT,el,mD]
  refine⟨by omega,by omega,c9.same ⟨rfl,?_⟩⟩
  simp -implicitDefEqProofs only[↓reduceIte,go_sem,Nat.reduceLT,Nat.reduceEqDiff,t1,t2,t8,hwk]
 ·rintro s H' ⟨rfl,t1,t2,t8,t9,t10⟩
  simp -implicitDefEqProofs only[↓reduceIte,go_sem,Nat.reduceLT,Nat.reduceEqDiff,t1,t2,t10,m1]
  refine aP (fun k s H'=>H'=H++[.arr 49 1 n (us (bG b n w))]∧(∀i,N≤i→i<N+k→∀(h:i<r.length),r[i]=false)∧s 8= .d (.list false (kL r))∧s 9= .sl H.length n 0 n∧s 14=iA ((N+k:Nat):Int)) (T-N) (by omega) (ay.refl _ _) ?_ ?_ ?_
  ·refine⟨rfl,fun i h1 h2=>by omega,?_⟩
   simp -implicitDefEqProofs only[↓reduceIte,go_sem,Nat.reduceLT,Nat.reduceEqDiff,t8,t9,Nat.add_zero]
  ·rintro k s H' hk hwk ⟨rfl,hf,t8,t9,t14⟩
   have hNk:N+k<r.length:=by omega
   have hx:=wB r (N+k) hNk
   have hbad:r[N+k]=true→byteOf (r.drop N)≠0:=fun h h0=>by
    have:=(lq _).1 h0 r[N+k] (List.mem_iff_getElem.2 ⟨k,by rw[List.length_drop];omega,by rw[List.getElem_drop]⟩)
    rw[h]at this;cases this
   have hf2:r[N+k]=false→∀i,N≤i→i<N+(k+1)→∀(h:i<r.length),r[i]=false:=fun h i h1 h2 h3=>by
    by_cases e:i=N+k
    ·subst e;exact h
    ·exact hf i h1 (by omega) h3
   have hw1:IntKind.i64.wrap (((N+k:Nat):Int)+1)=((N+(k+1):Nat):Int):=by rw[wrap64_in _ (by omega) (by omega)];omega
   generalize r[N+k]=x at*
   generalize N+k=i at*
   generalize N+(k+1)=i2 at*
   cases x with
   |true=>
    rw[if_neg (hbad rfl)]at hE
    simp -implicitDefEqProofs only[↓reduceIte,go_sem,Nat.reduceLT,Nat.reduceEqDiff,t8,t14,ep,hNk,hx]
    refine aw.ret ?_
    simp -implicitDefEqProofs only[↓reduceIte,go_sem,Nat.reduceLT,Nat.reduceEqDiff,Int.reduceEq,hE,eF]
   |false=>
    simp -implicitDefEqProofs only[↓reduceIte,go_sem,Nat.reduceLT,Nat.reduceEqDiff,t8,t14,ep,hNk,hx,hw1]
    refine c9.same ⟨rfl,hf2 rfl,?_⟩
    simp -implicitDefEqProofs only[↓reduceIte,go_sem,Nat.reduceLT,Nat.reduceEqDiff,t8,t9]
  ·rintro s H' ⟨rfl,hf,t8,t9,t14⟩
   rw[show N+(T-N)=T by omega]at*
   have h0:byteOf (r.drop N)=0:=(lq _).2 fun x hx=>by
    obtain⟨i,hi,rfl⟩:=List.mem_iff_getElem.1 hx
    rw[List.length_drop]at hi
    rw[List.getElem_drop]
    exact hf (N+i) (by omega) (by omega) (by omega)
   rw[if_pos h0]at hE
   simp -implicitDefEqProofs only[↓reduceIte,go_sem,Nat.reduceLT,Nat.reduceEqDiff,t8,t9,t14,ep,hBl]
   refine aw.ret ?_
   simp -implicitDefEqProofs only[↓reduceIte,go_sem,Nat.reduceLT,Nat.reduceEqDiff,hE,eF,jk (us (bG b n w)) n (by rw[cT,cr])]
theorem jQ(l:List aq)(nn:Bool)(hl:l.length≤1000000000)(H:aa):ag Tryz.prog 95 [.d (.list nn (l.map aq.enc))] H (.ok (.bz [.d (.list false (bF (bL l))),.d (.list false ((aE l).map aq.enc))])) H:=by
 refine ag.aj (hint:=(fun _=>false)) Tryz.func95 (by kernel_rfl) rfl [2,3] (by kernel_rfl) (by decide) (by simp[Tryz.ntmps95]) ?_
 rw[Tryz.ntmps95]
 simp -implicitDefEqProofs only[go_sem]
 refine aP (fun k s H'=>∃B E,B=bL (l.take k)∧E=aE (l.take k)∧H'=H++[.arr 4 1 k (bF B),.arr 25 3 E.length (E.map aq.enc)]∧s 0= .d (.list nn (l.map aq.enc))∧s 4= .sl H.length k 0 k∧s 5= .sl (H.length+1) E.length 0 E.length∧s 6=iA k) l.length (by omega) (ay.trans (ay.db _ _ 4 4 1 (by decide) (by simp -implicitDefEqProofs only[↓reduceIte,go_sem,Nat.reduceLT,Nat.reduceEqDiff]) _) (ay.db _ _ 5 25 3 (by decide) (by simp -implicitDefEqProofs only[↓reduceIte,go_sem,Nat.reduceLT,Nat.reduceEqDiff]) _)) ?_ ?_ ?_
 ·refine⟨[],[],rfl,rfl,by simp -implicitDefEqProofs only[go_sem,List.map_nil];rfl,?_⟩
  simp -implicitDefEqProofs only[↓reduceIte,go_sem,Nat.reduceLT,Nat.reduceEqDiff,reduceCtorEq]
 ·rintro k s H' hk hw ⟨B,E,hB,hE,rfl,t0,t4,t5,t6⟩
  have hx:=List.getElem?_eq_getElem hk
  have e1:=qx (l.take k) l[k]
  have e2:=sm (l.take k) l[k]
  rw[←List.take_succ_eq_append_getElem hk]at e1 e2
  rw[←hB]at e1
  rw[←hE]at e2
  have hBl:B.length=k:=by rw[hB,dN,List.length_take];omega
  have hEl:E.length≤k:=by rw[hE];exact Nat.le_trans (List.length_filter_le _ _) (by rw[List.length_take];omega)
  have hEm:(E.map aq.enc).length=E.length:=List.length_map ..
  generalize l[k]=v at*
  have ho:∀c∈E.map aq.enc,c.length=3:=fun c hc=>by obtain⟨u,_,rfl⟩:=List.mem_map.1 hc;rfl
  by_cases hz:v.kind=0
  ·rw[if_pos hz]at e2
   simp -implicitDefEqProofs only[↓reduceIte,go_sem,Nat.reduceAdd,Nat.reduceLT,Nat.reduceLeDiff,Nat.reduceEqDiff,reduceCtorEq,t0,t4,t6,hk,hx,aq.enc,List.length_map,bP,hBl,hz,hw]
   refine⟨by omega,by omega,c9.same ⟨B++[true],E,by rw[e1,decide_eq_true hz],e2.symm,?_,?_⟩⟩
   ·rw[←jr]
   ·simp -implicitDefEqProofs only[↓reduceIte,go_sem,Nat.reduceLT,Nat.reduceEqDiff,reduceCtorEq,t0,t5]
  ·rw[if_neg hz]at e2
   simp -implicitDefEqProofs only[↓reduceIte,go_sem,Nat.reduceAdd,Nat.reduceLT,Nat.reduceLeDiff,Nat.reduceEqDiff,reduceCtorEq,t0,t4,t5,t6,hk,hx,aq.enc,List.length_map,bP,hBl,hz,hEm,hw]
   refine⟨by omega,by omega,by omega,by omega,c9.same ⟨B++[false],E++[v],by rw[e1,decide_eq_false hz],e2.symm,?_,?_⟩⟩
   ·rw[←jr,List.map_append,List.length_append];rfl
   ·simp -implicitDefEqProofs only[↓reduceIte,go_sem,Nat.reduceLT,Nat.reduceEqDiff,reduceCtorEq,t0,List.length_append]
 ·rintro s H' ⟨B,E,hB,hE,rfl,t0,t4,t5,t6⟩
  rw[List.take_length]at hB hE
  simp -implicitDefEqProofs only[↓reduceIte,go_sem,Nat.reduceLT,Nat.reduceEqDiff,reduceCtorEq,t0,t4,t5,t6,List.length_map]
  refine aw.ret ?_
  simp -implicitDefEqProofs only[↓reduceIte,go_sem,Nat.reduceLT,Nat.reduceEqDiff,bQ _ _ (show(bF (bL l)).length=l.length by rw[bP,dN]),bQ _ _ (show((aE l).map aq.enc).length=(aE l).length from List.length_map ..),hB,hE]
theorem qd(l:List Bool)(nn:Bool)(hl:l.length≤1000000000)(H:aa):ag Tryz.prog 93 [.d (.list nn (bF l))] H (.ok (iA (aC l))) H:=by
 refine ag.aj (hint:=(fun _=>false)) Tryz.func93 (by kernel_rfl) rfl [2] (by kernel_rfl) (by decide) (by simp[Tryz.ntmps93]) ?_
 rw[Tryz.ntmps93]
 simp -implicitDefEqProofs only[go_sem]
 refine aP (fun k s H'=>H'=H∧s 0= .d (.list nn (bF l))∧s 3=iA (aC (l.take k))∧s 4=iA k) l.length (by omega) (ay.refl _ _) ?_ ?_ ?_
 ·refine⟨rfl,?_⟩
  simp -implicitDefEqProofs only[↓reduceIte,go_sem,Nat.reduceLT,Nat.reduceEqDiff,reduceCtorEq]
  rfl
 ·rintro k s H' hk hw ⟨rfl,t0,t3,t4⟩
  have hx:=kh l k hk
  have e1:aC (l.take (k+1))=aC (l.take k)+if l[k]then 1 else 0:=by
   rw[List.take_succ_eq_append_getElem hk]
   unfold aC
   rw[List.countP_append,List.countP_singleton]
   cases l[k]<;>rfl
  have hc:=ef (l.take k)
  rw[List.length_take]at hc
  rw[e1]
  generalize l[k]=b at*
  generalize aC (l.take k)=n at*
  have w1:IntKind.i64.wrap ((n:Int)+1)=((n+1:Nat):Int):=by rw[wrap64_in _ (by omega) (by omega)];omega
  cases b
  ·simp -implicitDefEqProofs only[↓reduceIte,go_sem,Nat.reduceLT,Nat.reduceEqDiff,reduceCtorEq,t0,t4,bP,hk,hx,hw]
   refine c9.same ⟨rfl,?_⟩
   simp -implicitDefEqProofs only[↓reduceIte,go_sem,Nat.reduceLT,Nat.reduceEqDiff,reduceCtorEq,t0,t3]
  ·simp -implicitDefEqProofs only[↓reduceIte,go_sem,Nat.reduceLT,Nat.reduceEqDiff,reduceCtorEq,t0,t3,t4,bP,hk,hx,hw,w1]
   refine c9.same ⟨rfl,?_⟩
   simp -implicitDefEqProofs only[↓reduceIte,go_sem,Nat.reduceLT,Nat.reduceEqDiff,reduceCtorEq,t0]
 ·rintro s H' ⟨rfl,t0,t3,t4⟩
  rw[List.take_length]at t3
  simp -implicitDefEqProofs only[↓reduceIte,go_sem,Nat.reduceLT,Nat.reduceEqDiff,reduceCtorEq,t0,t3,t4,bP]
  refine aw.aI ?_
  simp -implicitDefEqProofs only[↓reduceIte,go_sem,Nat.reduceLT]
theorem vn{l:List aq}:(aE l).length=l.length↔∀v∈l,v.kind≠0:=by
 unfold aE
 rw[List.length_filter_eq_length_iff]
 simp
theorem AY(ns:List Bool)(l:List aq)(n1 n2:Bool)(hn:ns.length≤1000000)(hl:l.length≤1000000000)(H:aa):
  ag Tryz.prog 94 [.d (.list n1 (bF ns)),.d (.list n2 (l.map aq.enc))] H (.ok (.bz [.d (.list false ((fl ns l).1.map aq.enc)),iA (fl ns l).2])) H:=by
 have hcl:=ef ns
 have hc:=fun H=>qd ns n1 (by omega) H
 by_cases hj:fl ns l=(eh ns l,0)
 ·rw[hj]
  unfold fl at hj
  have h1:ns.length-aC ns=l.length:=by
   by_cases c:ns.length-aC ns=l.length
   ·exact c
   ·rw[if_pos c]at hj;simp at hj
  have h2:(aE l).length=l.length:=by
   by_cases c:(aE l).length=l.length
   ·exact c
   ·rw[if_neg (by simp[h1]),if_pos c]at hj;simp at hj
  rw[vn]at h2
  have w1:IntKind.i64.wrap ((l.length:Int)+(aC ns:Int))=(ns.length:Int):=by rw[wrap64_in _ (by omega) (by omega)];omega
  refine ag.aj (hint:=(fun _=>false)) Tryz.func94 (by kernel_rfl) rfl [4,5] (by kernel_rfl) (by decide) (by simp[Tryz.ntmps94]) ?_
  rw[Tryz.ntmps94]
  simp -implicitDefEqProofs only[go_sem]
  refine aP (fun k s G=>G=H∧s 0= .d (.list n1 (bF ns))∧s 1= .d (.list n2 (l.map aq.enc))∧s 6=iA k) l.length (by omega) (ay.refl _ _) ?_ ?_ ?_
  ·refine⟨rfl,?_⟩
   simp -implicitDefEqProofs only[↓reduceIte,go_sem,Nat.reduceLT,Nat.reduceEqDiff,reduceCtorEq]
  ·rintro k s G hk hw ⟨rfl,t0,t1,t6⟩
   have hx:=List.getElem?_eq_getElem hk
   have hz:=h2 _ (List.getElem_mem hk)
   generalize l[k]=v at*
   simp -implicitDefEqProofs only[↓reduceIte,go_sem,Nat.reduceAdd,Nat.reduceLT,Nat.reduceLeDiff,Nat.reduceEqDiff,t1,t6,hk,hx,aq.enc,List.length_map,hz,hw]
   refine c9.same ⟨rfl,?_⟩
   simp -implicitDefEqProofs only[↓reduceIte,go_sem,Nat.reduceLT,Nat.reduceEqDiff,reduceCtorEq,t0,t1]
  ·rintro s G ⟨rfl,t0,t1,t6⟩
   simp -implicitDefEqProofs only[↓reduceIte,go_sem,Nat.reduceLT,Nat.reduceEqDiff,reduceCtorEq,t0,t1,t6,List.length_map]
   refine ae.ok (hc _) ?_
   simp -implicitDefEqProofs only[↓reduceIte,go_sem,Nat.reduceLT,Nat.reduceEqDiff,reduceCtorEq,t0,bP,w1]
   refine aP (fun k s H'=>∃O j,H'=G++[.arr 25 3 k (O.map aq.enc)]∧eh ns l=O++eh (ns.drop k) (l.drop j)∧O.length=k∧(ns.drop k).length-aC (ns.drop k)=l.length-j∧j≤l.length∧s 0= .d (.list n1 (bF ns))∧s 1= .d (.list n2 (l.map aq.enc))∧s 7= .sl G.length k 0 k∧s 8=iA j∧s 9=iA k) ns.length (by omega) (ay.db _ _ 7 25 3 (by decide) (by simp -implicitDefEqProofs only[↓reduceIte,go_sem,Nat.reduceLT,Nat.reduceEqDiff]) _) ?_ ?_ ?_
   ·refine⟨[],0,by simp -implicitDefEqProofs only[go_sem,List.map_nil],rfl,rfl,h1,Nat.zero_le _,?_⟩
    simp -implicitDefEqProofs only[↓reduceIte,go_sem,Nat.reduceLT,Nat.reduceEqDiff,reduceCtorEq,t0,t1]
   ·rintro k s H' hk hw ⟨O,j,rfl,hJ,hO,hR,hjl,t0,t1,t7,t8,t9⟩
    have hx:=kh ns k hk
    have hd:ns.drop k=ns[k]::ns.drop (k+1):=List.drop_eq_getElem_cons hk
    rw[hd]at hJ hR
    rw[count_cons]at hR
    have hce:=ef (ns.drop (k+1))
    generalize ns.drop (k+1)=D at*
    generalize ns[k]=b at*
    have hOl:(O.map aq.enc).length=k:=by rw[List.length_map];exact hO
    have ho:∀c∈O.map aq.enc,c.length=3:=fun c hc=>by obtain⟨u,_,rfl⟩:=List.mem_map.1 hc;rfl
    cases b with
    |true=>
     simp -implicitDefEqProofs only[↓reduceIte,go_sem,Nat.reduceAdd,Nat.reduceLT,Nat.reduceLeDiff,Nat.reduceEqDiff,reduceCtorEq,t0,t7,t9,hk,hx,bP,hOl,hw]
     refine⟨by omega,by omega,c9.same ⟨O++[⟨0,0,cP⟩],j,by simp[aq.enc,cP],by rw[hJ];simp[eh],by simp[hO],by simp at hR;omega,hjl,?_⟩⟩
     simp -implicitDefEqProofs only[↓reduceIte,go_sem,Nat.reduceLT,Nat.reduceEqDiff,reduceCtorEq,t0,t1,t8]
    |false=>
     simp at hR
     have hj2:j<l.length:=by omega
     have hv:=List.getElem?_eq_getElem hj2
     have hd2:l.drop j=l[j]::l.drop (j+1):=List.drop_eq_getElem_cons hj2
     rw[hd2]at hJ
     generalize l[j]=v at*
     have w2:IntKind.i64.wrap ((j:Int)+1)=((j+1:Nat):Int):=by rw[wrap64_in _ (by omega) (by omega)];omega
     simp -implicitDefEqProofs only[↓reduceIte,go_sem,Nat.reduceAdd,Nat.reduceLT,Nat.reduceLeDiff,Nat.reduceEqDiff,reduceCtorEq,t0,t1,t7,t8,t9,hk,hx,hv,aq.enc,bP,hOl,hw,w2]
     refine⟨by omega,by omega,c9.same ⟨O++[v],j+1,by simp[aq.enc],by rw[hJ];simp[eh],by simp[hO],by omega,hj2,?_⟩⟩
     simp -implicitDefEqProofs only[↓reduceIte,go_sem,Nat.reduceLT,Nat.reduceEqDiff,reduceCtorEq,t0,t1]
   ·rintro s H' ⟨O,j,rfl,hJ,hO,hR,hjl,t0,t1,t7,t8,t9⟩
    rw[List.drop_length]at hJ
    have hjo:eh ns l=O:=by rw[hJ];simp[eh]
    simp -implicitDefEqProofs only[↓reduceIte,go_sem,Nat.reduceLT,Nat.reduceEqDiff,reduceCtorEq,t0,t7,t9,bP]
    refine aw.ret ?_
    simp -implicitDefEqProofs only[↓reduceIte,go_sem,Nat.reduceLT,Nat.reduceEqDiff,bQ _ _ (show(O.map aq.enc).length=ns.length by rw[List.length_map,hO]),hjo]
 ·have hj4:fl ns l=([],4):=by
   unfold fl at hj⊢
   split
   ·rfl
   ·rename_i c
    rw[if_neg c]at hj
    split
    ·rfl
    ·rename_i d
     rw[if_neg d]at hj
     exact absurd rfl hj
  rw[hj4]
  refine ag.bE (cs:=[.d (.v (.slice none 0 0)),iA 4]) ?_ (.cons .nil (.cons (.refl _) .nil))
  have hbad:¬((∀v∈l,v.kind≠0)∧l.length+aC ns=ns.length):=by
   rintro⟨a,b⟩
   apply hj
   unfold fl
   rw[if_neg (by omega),if_neg (by rw[vn.2 a];simp)]
  refine ag.aj (hint:=(fun _=>false)) Tryz.func94 (by kernel_rfl) rfl [4,5] (by kernel_rfl) (by decide) (by simp[Tryz.ntmps94]) ?_
  rw[Tryz.ntmps94]
  simp -implicitDefEqProofs only[go_sem]
  refine cl _ _ _ _ (fun(k:Nat) s G=>G=H∧k≤l.length∧(∀v∈l.take k,v.kind≠0)∧s 0= .d (.list n1 (bF ns))∧s 1= .d (.list n2 (l.map aq.enc))∧s 6=iA k) (fun k=>l.length-k) 0 (ay.refl _ _) ?_ ?_
  ·refine⟨rfl,Nat.zero_le _,by simp,?_⟩
   simp -implicitDefEqProofs only[↓reduceIte,go_sem,Nat.reduceLT,Nat.reduceEqDiff,reduceCtorEq]
  ·rintro k s G ⟨rfl,hk,ha,t0,t1,t6⟩
   have w2:IntKind.i64.wrap ((k:Int)+1)=((k+1:Nat):Int):=by rw[wrap64_in _ (by omega) (by omega)];omega
   by_cases hkl:k<l.length
   ·have hx:=List.getElem?_eq_getElem hkl
    have e1:=List.take_succ_eq_append_getElem hkl
    by_cases hz:l[k].kind=0
    ·generalize l[k]=v at*
     simp -implicitDefEqProofs only[↓reduceIte,go_sem,Nat.reduceAdd,Nat.reduceLT,Nat.reduceLeDiff,Nat.reduceEqDiff,t1,t6,hkl,hx,aq.enc,List.length_map,hz]
     refine aw.aI ?_
     simp -implicitDefEqProofs only[↓reduceIte,go_sem,Nat.reduceLT,Nat.reduceEqDiff]
    ·have ha2:∀v∈l.take (k+1),v.kind≠0:=fun v hv=>by
      rw[e1]at hv
      rcases List.mem_append.1 hv with h|h
      ·exact ha v h
      ·rw[List.mem_singleton.1 h];exact hz
     generalize l[k]=v at*
     simp -implicitDefEqProofs only[↓reduceIte,go_sem,Nat.reduceAdd,Nat.reduceLT,Nat.reduceLeDiff,Nat.reduceEqDiff,t1,t6,hkl,hx,aq.enc,List.length_map,hz,w2]
     refine⟨_,_,k+1,ay.refl _ _,⟨rfl,hkl,ha2,?_⟩,by omega⟩
     simp -implicitDefEqProofs only[↓reduceIte,go_sem,Nat.reduceLT,Nat.reduceEqDiff,reduceCtorEq,t0,t1]
   ·have hkl2:k=l.length:=by omega
    subst hkl2
    rw[List.take_length]at ha
    have hne:((l.length:Int)+(aC ns:Int)=(ns.length:Int))=False:=eq_false fun h=>hbad ⟨ha,by omega⟩
    have w1:IntKind.i64.wrap ((l.length:Int)+(aC ns:Int))=(l.length:Int)+(aC ns:Int):=by rw[wrap64_in _ (by omega) (by omega)]
    simp -implicitDefEqProofs only[↓reduceIte,go_sem,Nat.reduceLT,Nat.reduceEqDiff,reduceCtorEq,t0,t1,t6,List.length_map]
    refine ae.ok (hc _) ?_
    simp -implicitDefEqProofs only[↓reduceIte,go_sem,Nat.reduceLT,Nat.reduceEqDiff,reduceCtorEq,t0,bP,w1,hne]
    refine aw.aI ?_
    simp -implicitDefEqProofs only[↓reduceIte,go_sem,Nat.reduceLT,Nat.reduceEqDiff]
theorem Ef(b:List Nat)(n:Nat)(hl:b.length≤140737488351232)(hb:∀c∈b,c<256)(hn:n≤1048576)(H:aa):
  ag Tryz.prog 90 [.d (.list false (aD b)),iA n] H (.ok (.bz [.d (.list false (bF (if bq b n 1=0 then qX b n else[]))),iA (bq b n 1)])) H:=by
 have hu:=fun H=>kT b n 1 false hl hb hn (by decide) H
 have hLl:=cr b n 1
 have hLt:=gp b n 1 (by decide)
 unfold eF at hu
 unfold qX
 generalize bG b n 1=L at*
 generalize bq b n 1=e at*
 by_cases he:e=0
 ·subst he
  rw[if_pos rfl]at hu
  rw[if_pos rfl]
  refine ag.aj (hint:=(fun _=>false)) Tryz.func90 (by kernel_rfl) rfl [4,5] (by kernel_rfl) (by decide) (by simp[Tryz.ntmps90]) ?_
  rw[Tryz.ntmps90]
  simp -implicitDefEqProofs only[↓reduceIte,go_sem,Nat.reduceLT,Nat.reduceEqDiff,reduceCtorEq]
  refine ae.ok (hu _) ?_
  simp -implicitDefEqProofs only[↓reduceIte,go_sem,Nat.reduceLT,Nat.reduceEqDiff]
  refine aP (fun k s H'=>H'=H++[.arr 4 1 k (bF ((L.take k).map fun x=>decide (x=1)))]∧s 6= .d (.list false (us L))∧s 8= .sl H.length k 0 k∧s 9=iA k) L.length (by omega) (ay.db _ _ 8 4 1 (by decide) (by simp -implicitDefEqProofs only[↓reduceIte,go_sem,Nat.reduceLT,Nat.reduceEqDiff]) _) ?_ ?_ ?_
  ·refine⟨rfl,?_⟩
   simp -implicitDefEqProofs only[↓reduceIte,go_sem,Nat.reduceLT,Nat.reduceEqDiff]
  ·rintro k s H' hk hw ⟨rfl,t6,t8,t9⟩
   have hx:=iO L k hk
   have e1:(L.take (k+1)).map (fun x=>decide (x=1))=(L.take k).map (fun x=>decide (x=1))++[decide (L[k]=1)]:=by rw[List.take_succ_eq_append_getElem hk,List.map_append];rfl
   have hml:((L.take k).map fun x=>decide (x=1)).length=k:=by rw[List.length_map,List.length_take];omega
   have hd:decide ((L[k]:Int)=1)=decide (L[k]=1):=decide_eq_decide.2 (by omega)
   rw[e1]
   generalize (L.take k).map (fun x=>decide (x=1))=B at*
   generalize hdv:decide (L[k]=1)=dv at*
   simp -implicitDefEqProofs only[↓reduceIte,go_sem,Nat.reduceLT,Nat.reduceLeDiff,Nat.reduceEqDiff,t6,t8,t9,hk,cT,hx,hd,bP,hml,jr,hw]
   refine⟨by omega,by omega,?_⟩
   refine c9.same ⟨rfl,?_⟩
   simp -implicitDefEqProofs only[↓reduceIte,go_sem,Nat.reduceLT,Nat.reduceEqDiff,t6]
  ·rintro s H' ⟨rfl,t6,t8,t9⟩
   rw[List.take_length]
   simp -implicitDefEqProofs only[↓reduceIte,go_sem,Nat.reduceLT,Nat.reduceEqDiff,t6,t8,t9,cT]
   refine aw.ret ?_
   simp -implicitDefEqProofs only[↓reduceIte,go_sem,Nat.reduceLT,Nat.reduceEqDiff,List.take_of_length_le (show(bF (L.map fun x=>decide (x=1))).length≤L.length by rw[bP,List.length_map];exact Nat.le_refl _)]
 ·rw[if_neg he]at hu
  rw[if_neg he]
  refine ag.bE (cs:=[.d (.v (.slice none 0 0)),iA e]) ?_ (.cons .nil (.cons (.refl _) .nil))
  refine ag.aj (hint:=(fun _=>false)) Tryz.func90 (by kernel_rfl) rfl [4,5] (by kernel_rfl) (by decide) (by simp[Tryz.ntmps90]) ?_
  rw[Tryz.ntmps90]
  simp -implicitDefEqProofs only[↓reduceIte,go_sem,Nat.reduceLT,Nat.reduceEqDiff,reduceCtorEq]
  refine ae.ok (hu _) ?_
  simp -implicitDefEqProofs only[↓reduceIte,go_sem,Nat.reduceLT,Nat.reduceEqDiff,he]
  refine aw.aI ?_
  simp -implicitDefEqProofs only[↓reduceIte,go_sem,Nat.reduceLT,Nat.reduceEqDiff]
end Go.Proofs.YtmbagpfmfiegkaaGreat
namespace Go.Proofs.YtmbagpfmfiegkaaGreatAw
open Go.RowKit
section
variable (P:Program) (hint:Nat→Bool) (n:Nat) (ops:Array Oper)
def dx(B:aa)(Q:bH):List (Option Bool)→List Oper→(Nat→AV)→aa→Prop
 |[],l,s,H=>bK P hint n ops Q l s H
 |_::_,[],s,H=>bK P hint n ops Q [] s H
 |some true::bs,o::rest,s,H=>ek P hint n ops (fun _ _ _=>False) o (fun s' H'=>Ext B H'∧dx B Q bs rest s' H') s H
 |some false::bs,o::rest,s,H=>ek P hint n ops (fun _ _ _=>False) o (fun s' H'=>H'=H∧dx B Q bs rest s' H') s H
 |none::bs,o::rest,s,H=>ek P hint n ops (fun _ _ _=>False) o (fun s' H'=>H'=B∧dx B Q bs rest s' H) s B
end
section
variable {P:Program} {hint:Nat→Bool} {n:Nat} {ops:Array Oper} {Q:bH}
theorem np{B:aa}(hdt:∀(i:Nat) (o:Oper),ops[i]?=some o→mw hint o.op=true)(s0:Nat→AV):∀(bs:List (Option Bool)) (k:Nat) (rs0:Nat→AV) (hp0:Nat→aa),k+bs.length≤ops.size→dx P hint n ops B Q bs (ops.toList.drop k) (cd n ops s0 rs0 k) (hp0 k)→
  ∃(rs:Nat→AV) (hp:Nat→aa),(∀i,i<k→rs i=rs0 i)∧(∀i,i≤k→hp i=hp0 i)∧
   (∀i o,k≤i→i<k+bs.length→ops[i]?=some o→(bs[i-k]?=some (some true)→di P hint n ops (hp i) (cd n ops s0 rs i) o (rs i) (hp (i+1))∧Ext B (hp (i+1)))∧
    (bs[i-k]?=some (some false)→di P hint n ops (hp i) (cd n ops s0 rs i) o (rs i) (hp i)∧hp (i+1)=hp i)∧
    (bs[i-k]?=some none→di P hint n ops B (cd n ops s0 rs i) o (rs i) B∧hp (i+1)=hp i))∧
   bK P hint n ops Q (ops.toList.drop (k+bs.length)) (cd n ops s0 rs (k+bs.length)) (hp (k+bs.length))
 |[],k,rs0,hp0,hk,h=>⟨rs0,hp0,fun _ _=>rfl,fun _ _=>rfl,fun i o h1 h2=>by simp at h2;omega,by
   have h:bK P hint n ops Q (ops.toList.drop k) (cd n ops s0 rs0 k) (hp0 k):=by
    cases hd:ops.toList.drop k<;>(rw[hd]at h;exact h)
   exact h⟩
 |b::bs,k,rs0,hp0,hk,h=>by
  simp only[List.length_cons]at hk
  have hlt:k<ops.size:=by omega
  have hget:ops[k]?=some ops[k]:=by simp[hlt]
  have hd:ops.toList.drop k=ops[k]::ops.toList.drop (k+1):=by
   rw[List.drop_eq_getElem_cons (by simpa using hlt)];simp
  rw[hd]at h
  have hdst:bV ops k=(ops[k]).dst:=by simp[bV,hget]
  have step:∃r H',((b=some true→di P hint n ops (hp0 k) (cd n ops s0 rs0 k) ops[k] r H'∧Ext B H')∧(b=some false→di P hint n ops (hp0 k) (cd n ops s0 rs0 k) ops[k] r (hp0 k)∧H'=hp0 k)∧(b=none→di P hint n ops B (cd n ops s0 rs0 k) ops[k] r B∧H'=hp0 k))∧dx P hint n ops B Q bs (ops.toList.drop (k+1)) (cv n (cd n ops s0 rs0 k) (ops[k]).dst r) H':=by
   match b,h with
   |some true,h=>
    obtain⟨r,H',h1,h2,h3⟩:=kU (hdt k _ hget) h
    exact⟨r,H',⟨fun _=>⟨h1,h2⟩,fun e=>(by cases e),fun e=>(by cases e)⟩,h3⟩
   |some false,h=>
    obtain⟨r,H',h1,rfl,h3⟩:=kU (hdt k _ hget) h
    exact⟨r,_,⟨fun e=>(by cases e),fun _=>⟨h1,rfl⟩,fun e=>(by cases e)⟩,h3⟩
   |none,h=>
    obtain⟨r,H',h1,rfl,h3⟩:=kU (hdt k _ hget) h
    exact⟨r,_,⟨fun e=>(by cases e),fun e=>(by cases e),fun _=>⟨h1,rfl⟩⟩,h3⟩
  obtain⟨r,H',⟨h1,h2,h3⟩,h4⟩:=step
  let rs1:Nat→AV:=fun i=>if i=k then r else rs0 i
  let hp1:Nat→aa:=fun i=>if i=k+1 then H' else hp0 i
  have e1:rs1 k=r:=if_pos rfl
  have e2:hp1 (k+1)=H':=if_pos rfl
  have hst:∀(rs:Nat→AV) i,i≤k→(∀j,j<i→rs j=rs0 j)→cd n ops s0 rs i=cd n ops s0 rs0 i:=by
   intro rs i
   induction i with
   |zero=>intros;rfl
   |succ i ih=>
    intro hi hr
    simp only[cd,ih (by omega) fun j hj=>hr j (by omega),hr i (by omega)]
  have h5:dx P hint n ops B Q bs (ops.toList.drop (k+1)) (cd n ops s0 rs1 (k+1)) (hp1 (k+1)):=by
   rw[e2]
   simp only[cd,e1,hdst]
   rw[hst rs1 k (Nat.le_refl _) fun j hj=>if_neg (by omega)]
   exact h4
  obtain⟨rs,hp,g1,g2,g3,g4⟩:=np hdt s0 bs (k+1) rs1 hp1 (by omega) h5
  have f1:∀i,i<k→rs i=rs0 i:=fun i hi=>by rw[g1 i (by omega)];exact if_neg (by omega)
  have f2:∀i,i≤k→hp i=hp0 i:=fun i hi=>by rw[g2 i (by omega)];exact if_neg (by omega)
  have f3:rs k=r:=by rw[g1 k (by omega)];exact e1
  have f4:hp (k+1)=H':=by rw[g2 (k+1) (by omega)];exact e2
  refine⟨rs,hp,f1,f2,fun i o hi hi2 ho=>?_,by rw[List.length_cons,show k+(bs.length+1)=k+1+bs.length from by omega];exact g4⟩
  rcases Nat.lt_or_ge k i with hki|hki
  ·have:=g3 i o hki (by simp only[List.length_cons]at hi2;omega) ho
   rw[show i-k=(i-(k+1))+1 from by omega,List.getElem?_cons_succ]
   exact this
  ·obtain rfl:i=k:=by omega
   rw[hget]at ho
   cases ho
   rw[Nat.sub_self,List.getElem?_cons_zero,f2 i (Nat.le_refl _),f3,f4,hst rs i (Nat.le_refl _) fun j hj=>f1 j hj]
   refine⟨fun e=>h1 (Option.some.inj e),fun e=>?_,fun e=>h3 (Option.some.inj e)⟩
   obtain⟨g1,g2⟩:=h2 (Option.some.inj e)
   exact⟨g1,g2⟩
end
def vc(hint:Nat→Bool)(ops:Array Oper)(bs:List (Option Bool))(c0:Nat):Bool:=bs[c0]?==some (some true)&&(List.range bs.length).all fun i=>match bs[i]?,ops[i]? with
 |some (some false),some o=>k9 hint false o||(decide (i<c0)&&dG ops 12 c0 i)
 |some none,some o=>k9 hint true o
 |some (some true),some _=>decide (c0≤i)&&(List.range i).all fun c=>bs[c]?==some (some false)||bs[c]?==some none||dG ops 12 i c
 |_,_=>false
section
variable {P:Program} {hint:Nat→Bool} {n:Nat} {ops:Array Oper} {Q:bH}
theorem dK(bs:List (Option Bool))(c0:Nat)(B:aa){H0 H:aa}{id:Nat}{s:Nat→AV}(hm:P.follows .mixedOrders=true)(hc:fN hint ops=true)(ht:fH ops bs.length=true)(hx:vc hint ops bs c0=true)(hB:Ext B H)
  (h:dx P hint n ops B Q bs ops.toList s H):dQ P hint n H0 (.region id ops true) Q s H:=by
 obtain⟨hms,htl⟩:=gL ht
 refine⟨hm,?_⟩
 obtain⟨rs,hp,_,g2,g3,g4⟩:=np (dF hc).Mb s bs 0 (fun _=> .top) (fun _=>H) (by omega) h
 have g20:hp 0=H:=g2 0 (Nat.le_refl _)
 simp only[Nat.zero_add,Nat.sub_zero,Nat.zero_le,true_implies]at g3 g4
 unfold vc at hx
 rw[Bool.and_eq_true,List.all_eq_true]at hx
 obtain⟨hx0,hx⟩:=hx
 have hx0:bs[c0]?=some (some true):=by simpa using hx0
 have hget:∀i,i<bs.length→∃o,ops[i]?=some o:=fun i hi=>⟨ops[i]'(by omega),by simp[show i<ops.size by omega]⟩
 have hbs:∀i (hi:i<bs.length),bs[i]?=some bs[i]:=fun i hi=>List.getElem?_eq_getElem hi
 let ch:Nat→Bool:=fun i=>bs[i]?==some (some true)
 have chT:∀i,ch i=true→bs[i]?=some (some true):=fun i h=>by
  have h:(bs[i]?==some (some true))=true:=h
  simpa using h
 have chF:∀i,i<bs.length→ch i=false→bs[i]?=some (some false)∨bs[i]?=some none:=fun i hi h=>by
  have h:(bs[i]?==some (some true))=false:=h
  rw[hbs i hi]at h⊢
  rcases hb:bs[i]with _|_|_
  ·exact .inr rfl
  ·exact .inl rfl
  ·rw[hb]at h;simp at h
 have hstay:∀i o,i<bs.length→ops[i]?=some o→ch i=false→hp (i+1)=hp i:=fun i o hi ho hci=>by
  rcases chF i hi hci with h|h
  ·exact((g3 i o hi ho).2.1 h).2
  ·exact((g3 i o hi ho).2.2 h).2
 have hext:∀j,j≤bs.length→Ext B (hp j):=by
  intro j
  induction j with
  |zero=>intro _;rw[g20];exact hB
  |succ j ihj=>
   intro hj
   obtain⟨o,ho⟩:=hget j (by omega)
   cases hcj:ch j with
   |true=>exact((g3 j o (by omega) ho).1 (chT j hcj)).2
   |false=>rw[hstay j o (by omega) ho hcj];exact ihj (by omega)
 have hc0:ch c0=true:=by show(bs[c0]?==some (some true))=true;rw[hx0];rfl
 have hfirst:∀i,i<bs.length→i<c0→ch i=false:=by
  intro i hi hlt
  cases hci:ch i with
  |false=>rfl
  |true=>
   exfalso
   obtain⟨o,ho⟩:=hget i hi
   have:=hx i (List.mem_range.2 hi)
   rw[chT i hci,ho]at this
   simp only[Bool.and_eq_true,decide_eq_true_eq]at this
   omega
 have hbase:∀i,i≤bs.length→i≤c0→hp i=H:=by
  intro i
  induction i with
  |zero=>intros;exact g20
  |succ i ihi=>
   intro hi hcf
   obtain⟨o,ho⟩:=hget i (by omega)
   rw[hstay i o (by omega) ho (hfirst i (by omega) (by omega))]
   exact ihi (by omega) (by omega)
 refine nq (dF hc) bs.length hms htl s rs hp ch ?_ ?_ ?_ ?_ g4 ops.size (Array.replicate ops.size false) s H (by simp) ?_ ?_ ?_ ?_ ?_ ⟨0,Nat.zero_le _,g20.symm,fun c hcm hct=>?_⟩
 ·intro c c' h1 h2 h3 h4
  have:=hx c' (List.mem_range.2 h2)
  obtain⟨o,ho⟩:=hget c' h2
  rw[chT c' h4,ho]at this
  simp only[Bool.and_eq_true,List.all_eq_true]at this
  have:=this.2 c (List.mem_range.2 h1)
  rw[chT c h3]at this
  simpa using this
 ·intro i hi hci
  obtain⟨o,ho⟩:=hget i hi
  exact hstay i o hi ho hci
 ·intro i o hi ho hci
  exact((g3 i o hi ho).1 (chT i hci)).1
 ·intro i o hi ho hci j hj hnr
  have hfl:=hx i (List.mem_range.2 hi)
  rcases chF i hi hci with hk|hk
  ·rw[hk,ho]at hfl
   simp only[Bool.or_eq_true,Bool.and_eq_true,decide_eq_true_eq]at hfl
   have hs:=((g3 i o hi ho).2.1 hk).1
   rcases hfl with hfl|⟨hlt,hre⟩
   ·exact fK hfl (fun hf=>by cases hf) hs
   ·have hjc:j≤c0:=by
     rcases Nat.lt_or_ge c0 j with h1|h1
     ·have:=hnr c0 h1 hc0
      rw[hre]at this;cases this
     ·exact h1
    rw[hbase j hj hjc]
    rw[hbase i (by omega) (by omega)]at hs
    exact hs
  ·rw[hk,ho]at hfl
   exact fK (first:=true) hfl (fun _=>hext j hj) ((g3 i o hi ho).2.2 hk).1
 ·exact Nat.le_trans List.countP_le_length (by simp)
 ·intro t j hj
  have hjl:=fW hj
  rw[if_neg (by simp[Array.getD,hjl])]
 ·intro t _;rfl
 ·intro j oj i hoj hl
  have hjl:=(Array.getElem?_eq_some_iff.1 hoj).1
  simp[Array.getD,hjl]at hl
 ·intro i hi hi2
  simp[Array.getD,hi2]
 ·have:c<ops.size:=by omega
  simp[Array.getD,this]
end
section
variable (P:Program) (hint:Nat→Bool) (n:Nat) (ops:Array Oper) (Q:bH) (rest:List Oper) (s:Nat→AV) (H B:aa) (bs:List (Option Bool))
def rV(b:Option Bool)(d:Option Tmp)(H0:aa):AV→aa→Prop:=fun r H'=>(match b with|some true=>Ext B H'∧dx P hint n ops B Q bs rest (cv n s d r) H'|some false=>H'=H0∧dx P hint n ops B Q bs rest (cv n s d r) H'|none=>H'=B∧dx P hint n ops B Q bs rest (cv n s d r) H0)
theorem AM(d:Option Tmp)(H0:aa)(r:AV):rV P hint n ops Q rest s B bs (some true) d H0 r H=(Ext B H∧dx P hint n ops B Q bs rest (cv n s d r) H):=rfl
theorem yH(d:Option Tmp)(H0:aa)(r:AV):rV P hint n ops Q rest s B bs (some false) d H0 r H=(H=H0∧dx P hint n ops B Q bs rest (cv n s d r) H):=rfl
theorem Cr(d:Option Tmp)(H0:aa)(r:AV):rV P hint n ops Q rest s B bs none d H0 r H=(H=B∧dx P hint n ops B Q bs rest (cv n s d r) H0):=rfl
theorem yt(l:List Oper):dx P hint n ops B Q [] l s H=bK P hint n ops Q l s H:=by cases l<;>rfl
theorem v9(b:Bool)(d:Option Tmp)(op:Op)(ty:TypeId)(p:String)(af:Array Edge):dx P hint n ops B Q (some b::bs) (⟨d,op,ty,p,af,none⟩::rest) s H=aN P hint s H ⟨d,op,ty,p,af,none⟩ (rV P hint n ops Q rest s B bs (some b) d H) F3:=by
 cases b<;>simp only[dx,ek]<;>rfl
theorem vX(d:Option Tmp)(op:Op)(ty:TypeId)(p:String)(af:Array Edge):dx P hint n ops B Q (none::bs) (⟨d,op,ty,p,af,none⟩::rest) s H=aN P hint s B ⟨d,op,ty,p,af,none⟩ (rV P hint n ops Q rest s B bs none d H) F3:=by
 simp only[dx,ek]<;>rfl
theorem AF(l:List Oper):dx P hint n ops B Q bs l.toArray.toList s H=dx P hint n ops B Q bs l s H:=rfl
theorem Ext.M4(T:aa):Ext B (B++T)=True:=eq_true (Ext.app B T)
theorem Ext.Lv:Ext B B=True:=eq_true (Ext.refl B)
end
@[congr] theorem MQ {P:Program} {hint:Nat→Bool} {n:Nat} {ops:Array Oper} {Q:bH} {bs:List (Option Bool)} {l:List Oper} {s:Nat→AV} {B H H':aa} (h:nf H=H'):dx P hint n ops B Q bs l s H=dx P hint n ops B Q bs l s H':=by rw[←h];rfl
@[congr] theorem L0 {P:Program} {hint:Nat→Bool} {n:Nat} {ops:Array Oper} {Q:bH} {rest:List Oper} {s:Nat→AV} {bs:List (Option Bool)} {b:Option Bool} {d:Option Tmp} {B H0 H H':aa} {r r':AV} (g:nf r=r') (h:nf H=H'):rV P hint n ops Q rest s B bs b d H0 r H=rV P hint n ops Q rest s B bs b d H0 r' H':=by rw[←g,←h];rfl
attribute [go_sem] Ext.M4 Ext.Lv AM yH Cr yt v9 vX AF
theorem aZ.KJ{P:Program}{rs:List ResultVar}{H T:aa}{s:Nat→AV}{r:AV}{id:Nat}{y:aT}(hy:y.below H.length=true)
  (h:ob (aJ P (H.set id y++T) s rs) fun avs=>r=jY (List.range avs.length) fun t=>sx (H.set id y++T) H.length (avs.getD t .top)):aZ P rs H (.ok r) (H.set id y) .ret s (H.set id y++T):=by
 cases e:aJ P (H.set id y++T) s rs with
 |none=>rw[e]at h;exact h.elim
 |some avs=>
  rw[e]at h
  have hw:=ay.zS (H0:=H) (fun t=>avs.getD t .top) (H.set id y++T) H.length (Nat.le_refl _) (by simp) fun i o hi ho=>by
   rw[List.getElem?_append_left (by simpa using hi),List.getElem?_set]at ho
   by_cases hj:id=i
   ·rw[if_pos hj]at ho
    split at ho
    ·cases ho;exact .inr hy
    ·cases ho
   ·rw[if_neg hj]at ho
    exact .inl ho
  rw[show(H.set id y++T).take H.length=H.set id y from List.take_left' (by simp)]at hw
  exact⟨avs,_,e,hw,by rw[h]⟩
theorem ay.Nw{H0:aa}(s:Nat→AV)(H:aa)(t:Nat)(h:s t= .d (.v (.slice none 0 0))):ay H0 s H (fun u=>if u=t then .d (.list false [])else s u) H:=
 .imp _ _ _ fun φ N w u v hv=>by
  by_cases hu:u=t
  ·subst hu
   rw[if_pos rfl]
   rw[h]at hv
   exact Sub.ra .nil hv
  ·rw[if_neg hu];exact hv
end Go.Proofs.YtmbagpfmfiegkaaGreatAw
namespace Go.Proofs.YtmbagpfmfiegkaaGreat
open Go.Proofs.YtmbagpfmfiegkaaGreatAw Go.RowKit
structure Zn where
 rows:Nat
 aA:Nat
 mn:aq
 mx:aq
deriving DecidableEq
def Zn.cs(z:Zn):List AV:=[iA z.rows,iA z.aA,iA z.mn.kind,iA z.mn.i,sA z.mn.s,iA z.mx.kind,iA z.mx.i,sA z.mx.s]
def ff(z:Zn)(v:aq):Zn:=if z.mn.kind=0 then⟨z.rows,z.aA,v,v⟩else z
def fg(z:Zn)(v:aq):Zn:=if aM v z.mn<0 then⟨z.rows,z.aA,v,z.mx⟩else z
def gO(z:Zn)(v:aq):Zn:=if 0<aM v z.mx then⟨z.rows,z.aA,z.mn,v⟩else z
def aW(z:Zn)(v:aq):Zn:=if v.kind=0 then⟨z.rows,z.aA+1,z.mn,z.mx⟩else gO (fg (ff z v) v) v
def bu(l:List aq):Zn:=l.foldl aW ⟨l.length,0,⟨0,0,cP⟩,⟨0,0,cP⟩⟩
theorem rO(z:Zn)(v:aq):(aW z v).aA≤z.aA+1:=by
 have e1:(ff z v).aA=z.aA:=by unfold ff;split<;>rfl
 have e2:∀z,(fg z v).aA=z.aA:=fun z=>by unfold fg;split<;>rfl
 have e3:∀z,(gO z v).aA=z.aA:=fun z=>by unfold gO;split<;>rfl
 unfold aW
 split
 ·exact Nat.le_refl _
 ·rw[e3,e2,e1];omega
theorem Fq(l:List aq)(nn:Bool)(hl:l.length≤1000000000)(H:aa):ag Tryz.prog 32 [.d (.list nn (l.map aq.enc))] H (.ok (.agg (bu l).cs)) H:=by
 refine ag.bj (hint:=fun _=>false) Tryz.func32 (by kernel_rfl) rfl [.cell 2 27] (by kernel_rfl) (by simp[Tryz.ntmps32]) ?_
 rw[Tryz.ntmps32]
 have hnl:∀k,k≤l.length→((l.take k).foldl aW ⟨l.length,0,⟨0,0,cP⟩,⟨0,0,cP⟩⟩).aA≤k:=by
  intro k
  induction k with
  |zero=>intro _;simp
  |succ k ih=>
   intro hk
   rw[List.take_succ_eq_append_getElem (by omega),List.foldl_append]
   have:=rO ((l.take k).foldl aW ⟨l.length,0,⟨0,0,cP⟩,⟨0,0,cP⟩⟩) l[k]
   have:=ih (by omega)
   simp only[List.foldl_cons,List.foldl_nil]
   omega
 simp -implicitDefEqProofs only[↓reduceIte,go_sem,au,Nat.reduceAdd,Nat.reduceLT,Nat.reduceLeDiff,Nat.reduceEqDiff,reduceCtorEq,List.length_map]
 refine bW (fun k s H'=>∃z:Zn,z=(l.take k).foldl aW ⟨l.length,0,⟨0,0,cP⟩,⟨0,0,cP⟩⟩∧H'=H++[.box 27 8 0 1 [iA 0,iA 0,iA 0,iA 0,sA ⟨#[]⟩,iA 0,iA 0,sA ⟨#[]⟩],.box 27 8 0 1 z.cs]∧s 2= .ptr H.length 0 0 0∧s 3= .ptr (H.length+1) 0 0 0∧s 9= .d (.list nn (l.map aq.enc))∧s 10=iA l.length∧s 11=iA k) l.length (by omega) (ay.refl _ _) ?_ ?_ ?_
 ·refine⟨⟨l.length,0,⟨0,0,cP⟩,⟨0,0,cP⟩⟩,rfl,rfl,?_⟩
  simp -implicitDefEqProofs only[↓reduceIte,go_sem,Nat.reduceLT,Nat.reduceEqDiff]
 ·rintro k s H' hk hw ⟨z,hz,rfl,t2,t3,t9,t10,t11⟩
  have hx:(l.map aq.enc)[k]?=some [.v (.int .i64 l[k].kind),.v (.int .i64 l[k].i),.v (.string l[k].s)]:=by rw[List.getElem?_map,List.getElem?_eq_getElem hk];rfl
  have e1:(l.take (k+1)).foldl aW ⟨l.length,0,⟨0,0,cP⟩,⟨0,0,cP⟩⟩=aW z l[k]:=by rw[List.take_succ_eq_append_getElem hk,List.foldl_append,hz];rfl
  have hn:=hnl k (by omega)
  rw[←hz]at hn
  rw[e1]
  clear hz e1 hnl
  generalize l[k]=v at*
  obtain⟨zr,zn,zmn,zmx⟩:=z
  simp only at hn
  have wn:IntKind.i64.wrap ((zn:Int)+1)=((zn+1:Nat):Int):=by rw[wrap64_in _ (by omega) (by omega)];rfl
  by_cases hk0:v.kind=0
  ·have hst:aW ⟨zr,zn,zmn,zmx⟩ v=⟨zr,zn+1,zmn,zmx⟩:=if_pos hk0
   rw[hst]
   simp -implicitDefEqProofs only[↓reduceIte,go_sem,ah,au,Nat.reduceAdd,Nat.reduceLT,Nat.reduceLeDiff,Nat.reduceEqDiff,t3,t9,t10,t11,hk,hx,hk0,Zn.cs,wn]
   refine c9.cut [.box 27 8 0 1 [iA 0,iA 0,iA 0,iA 0,sA ⟨#[]⟩,iA 0,iA 0,sA ⟨#[]⟩],.box 27 8 0 1 (Zn.cs ⟨zr,zn+1,zmn,zmx⟩)] _ 2 rfl rfl (by simp -implicitDefEqProofs only[go_sem,Zn.cs]) ⟨⟨zr,zn+1,zmn,zmx⟩,rfl,rfl,?_⟩
   simp -implicitDefEqProofs only[↓reduceIte,go_sem,Nat.reduceLT,Nat.reduceEqDiff,t2,t3,t9,t10,hw]
  ·by_cases hm:zmn.kind=0
   ·have hE:∀cs:List AV,Ext (H++[.box 27 8 0 1 [iA 0,iA 0,iA 0,iA 0,sA ⟨#[]⟩,iA 0,iA 0,sA ⟨#[]⟩],.dead 0,.box 25 3 0 1 [iA v.kind,iA v.i,sA v.s]]) (H++[.box 27 8 0 1 [iA 0,iA 0,iA 0,iA 0,sA ⟨#[]⟩,iA 0,iA 0,sA ⟨#[]⟩],.box 27 8 0 1 cs,.box 25 3 0 1 [iA v.kind,iA v.i,sA v.s]]):=fun cs=>
     Ext.gS H ⟨fun _=>rfl,fun h=>(by cases h),fun _=>rfl,trivial⟩
    have hE':=fun cs=>eq_true (hE cs)
    simp -implicitDefEqProofs only[↓reduceIte,go_sem,ah,au,Nat.reduceAdd,Nat.reduceLT,Nat.reduceLeDiff,Nat.reduceEqDiff,t3,t9,t10,t11,hk,hx,hk0,hm,Zn.cs]
    refine dK [some false,none,some false,some true,some true,some true] 3 (H++[.box 27 8 0 1 [iA 0,iA 0,iA 0,iA 0,sA ⟨#[]⟩,iA 0,iA 0,sA ⟨#[]⟩],.dead 0,.box 25 3 0 1 [iA v.kind,iA v.i,sA v.s]]) K.mixed (by kernel_rfl) (by kernel_rfl) (by kernel_rfl) (hE _) ?_
    simp -implicitDefEqProofs only[↓reduceIte,go_sem,ah,au,Nat.reduceAdd,Nat.reduceLT,Nat.reduceLeDiff,Nat.reduceEqDiff,t3,hE']
    refine ae.ok (eW v v _) ?_
    by_cases c1:aM v v<0
    ·simp -implicitDefEqProofs only[↓reduceIte,go_sem,ah,au,Nat.reduceAdd,Nat.reduceLT,Nat.reduceLeDiff,Nat.reduceEqDiff,t3,c1]
     refine ae.ok (eW v v _) ?_
     by_cases c2:0<aM v v
     ·have hst:aW ⟨zr,zn,zmn,zmx⟩ v=⟨zr,zn,v,v⟩:=by
        simp only[aW,ff,fg,gO,hk0,hm,c1,c2,if_true,if_false]
      rw[hst]
      simp -implicitDefEqProofs only[↓reduceIte,go_sem,ah,au,Nat.reduceAdd,Nat.reduceLT,Nat.reduceEqDiff,t3,t11,c2]
      refine c9.cut [.box 27 8 0 1 [iA 0,iA 0,iA 0,iA 0,sA ⟨#[]⟩,iA 0,iA 0,sA ⟨#[]⟩],.box 27 8 0 1 (Zn.cs ⟨zr,zn,v,v⟩)] _ 2 rfl rfl (by simp -implicitDefEqProofs only[go_sem,Zn.cs]) ⟨⟨zr,zn,v,v⟩,rfl,rfl,?_⟩
      simp -implicitDefEqProofs only[↓reduceIte,go_sem,Nat.reduceLT,Nat.reduceEqDiff,t2,t3,t9,t10,hw]
     ·have hst:aW ⟨zr,zn,zmn,zmx⟩ v=⟨zr,zn,v,v⟩:=by
        simp only[aW,ff,fg,gO,hk0,hm,c1,c2,if_true,if_false]
      rw[hst]
      simp -implicitDefEqProofs only[↓reduceIte,go_sem,Nat.reduceLT,Nat.reduceEqDiff,t11,c2]
      refine c9.cut [.box 27 8 0 1 [iA 0,iA 0,iA 0,iA 0,sA ⟨#[]⟩,iA 0,iA 0,sA ⟨#[]⟩],.box 27 8 0 1 (Zn.cs ⟨zr,zn,v,v⟩)] _ 2 rfl rfl (by simp -implicitDefEqProofs only[go_sem,Zn.cs]) ⟨⟨zr,zn,v,v⟩,rfl,rfl,?_⟩
      simp -implicitDefEqProofs only[↓reduceIte,go_sem,Nat.reduceLT,Nat.reduceEqDiff,t2,t3,t9,t10,hw]
    ·simp -implicitDefEqProofs only[↓reduceIte,go_sem,ah,Nat.reduceAdd,Nat.reduceLT,Nat.reduceEqDiff,t3,c1]
     refine ae.ok (eW v v _) ?_
     by_cases c2:0<aM v v
     ·have hst:aW ⟨zr,zn,zmn,zmx⟩ v=⟨zr,zn,v,v⟩:=by
        simp only[aW,ff,fg,gO,hk0,hm,c1,c2,if_true,if_false]
      rw[hst]
      simp -implicitDefEqProofs only[↓reduceIte,go_sem,ah,au,Nat.reduceAdd,Nat.reduceLT,Nat.reduceEqDiff,t3,t11,c2]
      refine c9.cut [.box 27 8 0 1 [iA 0,iA 0,iA 0,iA 0,sA ⟨#[]⟩,iA 0,iA 0,sA ⟨#[]⟩],.box 27 8 0 1 (Zn.cs ⟨zr,zn,v,v⟩)] _ 2 rfl rfl (by simp -implicitDefEqProofs only[go_sem,Zn.cs]) ⟨⟨zr,zn,v,v⟩,rfl,rfl,?_⟩
      simp -implicitDefEqProofs only[↓reduceIte,go_sem,Nat.reduceLT,Nat.reduceEqDiff,t2,t3,t9,t10,hw]
     ·have hst:aW ⟨zr,zn,zmn,zmx⟩ v=⟨zr,zn,v,v⟩:=by
        simp only[aW,ff,fg,gO,hk0,hm,c1,c2,if_true,if_false]
      rw[hst]
      simp -implicitDefEqProofs only[↓reduceIte,go_sem,Nat.reduceLT,Nat.reduceEqDiff,t11,c2]
      refine c9.cut [.box 27 8 0 1 [iA 0,iA 0,iA 0,iA 0,sA ⟨#[]⟩,iA 0,iA 0,sA ⟨#[]⟩],.box 27 8 0 1 (Zn.cs ⟨zr,zn,v,v⟩)] _ 2 rfl rfl (by simp -implicitDefEqProofs only[go_sem,Zn.cs]) ⟨⟨zr,zn,v,v⟩,rfl,rfl,?_⟩
      simp -implicitDefEqProofs only[↓reduceIte,go_sem,Nat.reduceLT,Nat.reduceEqDiff,t2,t3,t9,t10,hw]
   ·simp -implicitDefEqProofs only[↓reduceIte,go_sem,ah,au,Nat.reduceAdd,Nat.reduceLT,Nat.reduceLeDiff,Nat.reduceEqDiff,t3,t9,t10,t11,hk,hx,hk0,hm,Zn.cs]
    refine ae.ok (eW v zmn _) ?_
    by_cases c1:aM v zmn<0
    ·simp -implicitDefEqProofs only[↓reduceIte,go_sem,ah,au,Nat.reduceAdd,Nat.reduceLT,Nat.reduceLeDiff,Nat.reduceEqDiff,t3,c1]
     refine ae.ok (eW v zmx _) ?_
     by_cases c2:0<aM v zmx
     ·have hst:aW ⟨zr,zn,zmn,zmx⟩ v=⟨zr,zn,v,v⟩:=by
        simp only[aW,ff,fg,gO,hk0,hm,c1,c2,if_true,if_false]
      rw[hst]
      simp -implicitDefEqProofs only[↓reduceIte,go_sem,ah,au,Nat.reduceAdd,Nat.reduceLT,Nat.reduceEqDiff,t3,t11,c2]
      refine c9.cut [.box 27 8 0 1 [iA 0,iA 0,iA 0,iA 0,sA ⟨#[]⟩,iA 0,iA 0,sA ⟨#[]⟩],.box 27 8 0 1 (Zn.cs ⟨zr,zn,v,v⟩)] _ 2 rfl rfl (by simp -implicitDefEqProofs only[go_sem,Zn.cs]) ⟨⟨zr,zn,v,v⟩,rfl,rfl,?_⟩
      simp -implicitDefEqProofs only[↓reduceIte,go_sem,Nat.reduceLT,Nat.reduceEqDiff,t2,t3,t9,t10,hw]
     ·have hst:aW ⟨zr,zn,zmn,zmx⟩ v=⟨zr,zn,v,zmx⟩:=by
        simp only[aW,ff,fg,gO,hk0,hm,c1,c2,if_true,if_false]
      rw[hst]
      simp -implicitDefEqProofs only[↓reduceIte,go_sem,Nat.reduceLT,Nat.reduceEqDiff,t11,c2]
      refine c9.cut [.box 27 8 0 1 [iA 0,iA 0,iA 0,iA 0,sA ⟨#[]⟩,iA 0,iA 0,sA ⟨#[]⟩],.box 27 8 0 1 (Zn.cs ⟨zr,zn,v,zmx⟩)] _ 2 rfl rfl (by simp -implicitDefEqProofs only[go_sem,Zn.cs]) ⟨⟨zr,zn,v,zmx⟩,rfl,rfl,?_⟩
      simp -implicitDefEqProofs only[↓reduceIte,go_sem,Nat.reduceLT,Nat.reduceEqDiff,t2,t3,t9,t10,hw]
    ·simp -implicitDefEqProofs only[↓reduceIte,go_sem,ah,Nat.reduceAdd,Nat.reduceLT,Nat.reduceEqDiff,t3,c1]
     refine ae.ok (eW v zmx _) ?_
     by_cases c2:0<aM v zmx
     ·have hst:aW ⟨zr,zn,zmn,zmx⟩ v=⟨zr,zn,zmn,v⟩:=by
        simp only[aW,ff,fg,gO,hk0,hm,c1,c2,if_true,if_false]
      rw[hst]
      simp -implicitDefEqProofs only[↓reduceIte,go_sem,ah,au,Nat.reduceAdd,Nat.reduceLT,Nat.reduceEqDiff,t3,t11,c2]
      refine c9.cut [.box 27 8 0 1 [iA 0,iA 0,iA 0,iA 0,sA ⟨#[]⟩,iA 0,iA 0,sA ⟨#[]⟩],.box 27 8 0 1 (Zn.cs ⟨zr,zn,zmn,v⟩)] _ 2 rfl rfl (by simp -implicitDefEqProofs only[go_sem,Zn.cs]) ⟨⟨zr,zn,zmn,v⟩,rfl,rfl,?_⟩
      simp -implicitDefEqProofs only[↓reduceIte,go_sem,Nat.reduceLT,Nat.reduceEqDiff,t2,t3,t9,t10,hw]
     ·have hst:aW ⟨zr,zn,zmn,zmx⟩ v=⟨zr,zn,zmn,zmx⟩:=by
        simp only[aW,ff,fg,gO,hk0,hm,c1,c2,if_false]
      rw[hst]
      simp -implicitDefEqProofs only[↓reduceIte,go_sem,Nat.reduceLT,Nat.reduceEqDiff,t11,c2]
      refine c9.cut [.box 27 8 0 1 [iA 0,iA 0,iA 0,iA 0,sA ⟨#[]⟩,iA 0,iA 0,sA ⟨#[]⟩],.box 27 8 0 1 (Zn.cs ⟨zr,zn,zmn,zmx⟩)] _ 2 rfl rfl (by simp -implicitDefEqProofs only[go_sem,Zn.cs]) ⟨⟨zr,zn,zmn,zmx⟩,rfl,rfl,?_⟩
      simp -implicitDefEqProofs only[↓reduceIte,go_sem,Nat.reduceLT,Nat.reduceEqDiff,t2,t3,t9,t10,hw]
 ·rintro s H' ⟨z,hz,rfl,t2,t3,t9,t10,t11⟩
  rw[List.take_length]at hz
  have hz':bu l=z:=hz.symm
  rw[hz']
  simp -implicitDefEqProofs only[↓reduceIte,go_sem,ah,au,Nat.reduceAdd,Nat.reduceLT,Nat.reduceEqDiff,t2,t3,t10,t11,Zn.cs]
  refine aZ.ret ?_
  simp -implicitDefEqProofs only[↓reduceIte,go_sem,ah,Nat.reduceAdd,Nat.reduceLeDiff,Nat.reduceEqDiff,aJ,a8,t2]
def fS(s:ByteArray):List Nat:=s.data.toList.map UInt8.toNat
theorem hH(s:ByteArray):(fS s).length=s.size:=by simp[fS]
theorem zT(s:ByteArray):∀c∈fS s,c<256:=fun c hc=>by
 obtain⟨x,_,rfl⟩:=List.mem_map.1 hc
 exact x.toNat_lt
theorem rW(s:ByteArray):cC s=aD (fS s):=by
 unfold cC aD fS
 rw[List.map_map]
 rfl
def kE(s:ByteArray):List Nat:=bp s.size++fS s
theorem FM(s:ByteArray)(hs:s.size≤100000000000000)(H:aa):ag Tryz.prog 66 [sA s] H (.ok (.d (.list false (aD (kE s))))) H:=by
 refine ag.aj (hint:=(fun _=>false)) Tryz.func66 (by kernel_rfl) rfl [2] (by kernel_rfl) (by decide) (by simp[Tryz.ntmps66]) ?_
 rw[Tryz.ntmps66]
 simp -implicitDefEqProofs only[↓reduceIte,go_sem,Nat.reduceLT,reduceCtorEq,aK s.size (by omega)]
 refine ae.ok (iH s.size (by omega) _) ?_
 have hl:=bD 10 s.size (by omega)
 have hsl:=hH s
 simp -implicitDefEqProofs only[↓reduceIte,go_sem,Nat.reduceLT,Nat.reduceEqDiff,reduceCtorEq,rW,ai,aL,dh]
 refine⟨by omega,by omega,aw.ret ?_⟩
 have ht:(aD (bp s.size++fS s)).take ((bp s.size).length+(fS s).length)=aD (bp s.size++fS s):=List.take_of_length_le (by rw[ai,List.length_append];omega)
 simp -implicitDefEqProofs only[↓reduceIte,go_sem,Nat.reduceLT,ht,kE]
def nt(n:Nat):List Nat:=(List.range 8).map fun i=>n/256^(7-i)%256
theorem fZ(n:Nat):(nt n).length=8:=by simp[nt]
theorem yG(n k:Nat)(h:k<8):(nt n).take (k+1)=(nt n).take k++[n/256^(7-k)%256]:=by
 rw[List.take_succ_eq_append_getElem (by rw[fZ];exact h)]
 simp[nt]
theorem mi{v:aq}(hm:cA v=true)(h3:v.kind=3):v.s.size≤1024:=by
 unfold cA at hm
 rw[if_neg (by omega),if_neg (by omega),if_pos h3]at hm
 simp at hm
 exact hm.2
def cW(v:aq):List Nat:=if v.kind=1 then bp (fj v.i)else if v.kind=2 then nt (dR (iW v.i))else if v.kind=3 then kE v.s else[]
theorem fX(v:aq)(hi:-9223372036854775808≤v.i∧v.i≤9223372036854775807)(hm:cA v=true)(H:aa):
  ag Tryz.prog 34 [v.av] H (.ok (.bz [.d (.list false (aD (cW v))),iA 0])) H:=by
 by_cases h1:v.kind=1
 ·have e:cW v=bp (fj v.i):=by unfold cW;rw[if_pos h1]
  rw[e]
  refine ag.aj (hint:=(fun _=>false)) Tryz.func34 (by kernel_rfl) rfl [2,3] (by kernel_rfl) (by decide) (by simp[Tryz.ntmps34]) ?_
  rw[Tryz.ntmps34]
  simp -implicitDefEqProofs only[↓reduceIte,go_sem,ah,Nat.reduceAdd,Nat.reduceLT,Nat.reduceEqDiff]
  refine ae.ok (kF v _) ?_
  simp -implicitDefEqProofs only[↓reduceIte,go_sem,ah,Nat.reduceAdd,Nat.reduceLT,Nat.reduceLeDiff,Nat.reduceEqDiff,hm,eq_true h1]
  refine ae.ok (ti v.i hi.1 hi.2 _) ?_
  simp -implicitDefEqProofs only[↓reduceIte,go_sem,Nat.reduceLT]
  refine ae.ok (oF (fj v.i) (gM hi.1 hi.2) _) ?_
  simp -implicitDefEqProofs only[↓reduceIte,go_sem,Nat.reduceLT]
  refine aw.ret ?_
  simp -implicitDefEqProofs only[↓reduceIte,go_sem,Nat.reduceLT,Nat.reduceEqDiff]
 by_cases h2:v.kind=2
 ·have e:cW v=nt (dR (iW v.i)):=by unfold cW;rw[if_neg h1,if_pos h2]
  have hk:=xt (iW v.i) (im _)
  rw[e]
  refine ag.aj (hint:=(fun _=>false)) Tryz.func34 (by kernel_rfl) rfl [2,3] (by kernel_rfl) (by decide) (by simp[Tryz.ntmps34]) ?_
  rw[Tryz.ntmps34]
  simp -implicitDefEqProofs only[↓reduceIte,go_sem,ah,Nat.reduceAdd,Nat.reduceLT,Nat.reduceEqDiff]
  refine ae.ok (kF v _) ?_
  simp -implicitDefEqProofs only[↓reduceIte,go_sem,ah,Nat.reduceAdd,Nat.reduceLT,Nat.reduceLeDiff,Nat.reduceEqDiff,hm,h1,eq_true h2,jE]
  refine ae.ok (kb _ (im _) _) ?_
  generalize dR (iW v.i)=n at*
  simp -implicitDefEqProofs only[↓reduceIte,go_sem,Nat.reduceLT]
  refine bW (fun k s H'=>H'=H++[.box 25 3 0 1 [iA v.kind,iA v.i,sA v.s],.arr 5 1 k (aD ((nt n).take k))]∧s 4=du n∧s 5= .sl (H.length+1) k 0 k∧s 24=iA k) 8 (by omega) (ay.db _ _ 5 5 1 (by decide) (by simp -implicitDefEqProofs only[↓reduceIte,go_sem,Nat.reduceLT,Nat.reduceEqDiff]) _) ?_ ?_ ?_
  ·refine⟨?_,?_⟩
   ·simp -implicitDefEqProofs only[go_sem,List.take_zero,rk]
   ·simp -implicitDefEqProofs only[↓reduceIte,go_sem,Nat.reduceLT,Nat.reduceEqDiff]
  ·rintro k s H' hk2 hw ⟨rfl,t4,t5,t24⟩
   have hk8:((k:Int)<8)=True:=eq_true (by omega)
   have e1:=yG n k hk2
   have el:((nt n).take k).length=k:=by rw[List.length_take,fZ];omega
   have w1:IntKind.i64.wrap (7-(k:Int))=((7-k:Nat):Int):=by rw[wrap64_in _ (by omega) (by omega)];omega
   have w2:IntKind.i64.wrap (8* ((7-k:Nat):Int))=((8* (7-k):Nat):Int):=by rw[wrap64_in _ (by omega) (by omega)];omega
   have w3:IntKind.u64.wrap ((8* (7-k):Nat):Int)=((8* (7-k):Nat):Int):=aK _ (by omega)
   have w4:j6 .u64 (n:Int) ((8* (7-k):Nat):Int)=((n/256^(7-k):Nat):Int):=by
    rw[yz n (8* (7-k)) (by omega),Nat.pow_mul]
   have w5:IntKind.u64.wrap ((n/256^(7-k):Nat):Int)=((n/256^(7-k):Nat):Int):=aK _ (Nat.lt_of_le_of_lt (Nat.div_le_self _ _) hk)
   rw[e1]
   generalize n/256^(7-k)=m at*
   generalize hq:((8* (7-k):Nat):Int)=q at*
   generalize ((7-k:Nat):Int)=q2 at*
   generalize (nt n).take k=B at*
   simp -implicitDefEqProofs only[↓reduceIte,go_sem,Nat.reduceAdd,Nat.reduceLT,Nat.reduceLeDiff,Nat.reduceEqDiff,t4,t5,t24,hk8,w1,w2,w3,w4,mN,ai,el,jD]
   refine⟨by omega,by omega,by omega,c9.same ⟨?_,?_⟩⟩
   ·simp -implicitDefEqProofs only[go_sem]
   ·simp -implicitDefEqProofs only[↓reduceIte,go_sem,Nat.reduceLT,Nat.reduceEqDiff,t4,hw]
  ·rintro s H' ⟨rfl,t4,t5,t24⟩
   rw[show(nt n).take 8=nt n from List.take_of_length_le (by rw[fZ];exact Nat.le_refl _)]
   simp -implicitDefEqProofs only[↓reduceIte,go_sem,Nat.reduceLT,Nat.reduceEqDiff,Int.reduceLT,t5,t24]
   refine aw.ret ?_
   simp -implicitDefEqProofs only[↓reduceIte,go_sem,Nat.reduceLT,Nat.reduceEqDiff,show(aD (nt n)).take 8=aD (nt n)from List.take_of_length_le (by rw[ai,fZ];exact Nat.le_refl _)]
 by_cases h3:v.kind=3
 ·have e:cW v=kE v.s:=by unfold cW;rw[if_neg h1,if_neg h2,if_pos h3]
  have hs:=mi hm h3
  rw[e]
  refine ag.aj (hint:=(fun _=>false)) Tryz.func34 (by kernel_rfl) rfl [2,3] (by kernel_rfl) (by decide) (by simp[Tryz.ntmps34]) ?_
  rw[Tryz.ntmps34]
  simp -implicitDefEqProofs only[↓reduceIte,go_sem,ah,Nat.reduceAdd,Nat.reduceLT,Nat.reduceEqDiff]
  refine ae.ok (kF v _) ?_
  simp -implicitDefEqProofs only[↓reduceIte,go_sem,ah,Nat.reduceAdd,Nat.reduceLT,Nat.reduceLeDiff,Nat.reduceEqDiff,hm,h1,h2,eq_true h3]
  refine ae.ok (FM v.s (by omega) _) ?_
  simp -implicitDefEqProofs only[↓reduceIte,go_sem,Nat.reduceLT]
  refine aw.ret ?_
  simp -implicitDefEqProofs only[↓reduceIte,go_sem,Nat.reduceLT,Nat.reduceEqDiff]
 ·have e:cW v=[]:=by unfold cW;rw[if_neg h1,if_neg h2,if_neg h3]
  rw[e]
  refine ag.bE (cs:=[.d (.v (.slice none 0 0)),iA 0]) ?_ (.cons .nil (.cons (.refl _) .nil))
  refine ag.aj (hint:=(fun _=>false)) Tryz.func34 (by kernel_rfl) rfl [2,3] (by kernel_rfl) (by decide) (by simp[Tryz.ntmps34]) ?_
  rw[Tryz.ntmps34]
  simp -implicitDefEqProofs only[↓reduceIte,go_sem,ah,Nat.reduceAdd,Nat.reduceLT,Nat.reduceEqDiff]
  refine ae.ok (kF v _) ?_
  simp -implicitDefEqProofs only[↓reduceIte,go_sem,ah,Nat.reduceAdd,Nat.reduceLT,Nat.reduceLeDiff,Nat.reduceEqDiff,hm,h1,h2,h3]
  refine aw.ret ?_
  simp -implicitDefEqProofs only[↓reduceIte,go_sem,Nat.reduceLT,Nat.reduceEqDiff]
end Go.Proofs.YtmbagpfmfiegkaaGreat
namespace Go.Proofs.YtmbagpfmfiegkaaGreat
namespace St
variable {α:Type}
structure Ord (lt:α→α→Bool):Prop where
 xb:∀x y,lt x y=true→lt y x=false
 dw:∀x y z,lt x z=true→lt x y=true∨lt y z=true
variable {lt:α→α→Bool} {l:List α}
theorem Ord.F7(h:Ord lt)(x:α):lt x x=false:=by
 cases e:lt x x with
 |false=>rfl
 |true=>rw[h.xb x x e]at e;cases e
theorem Ord.trans(h:Ord lt){x y z:α}(h1:lt x y=true)(h2:lt y z=true):lt x z=true:=by
 rcases h.dw x z y h1 with h3|h3
 ·exact h3
 ·rw[h.xb y z h2]at h3;cases h3
theorem Ord.le_trans(h:Ord lt){x y z:α}(h1:lt y x=false)(h2:lt z y=false):lt z x=false:=by
 cases e:lt z x with
 |false=>rfl
 |true=>
  rcases h.dw z y x e with h3|h3
  ·rw[h2]at h3;cases h3
  ·rw[h1]at h3;cases h3
theorem Ord.JJ(h:Ord lt){x y z:α}(h1:lt x y=true)(h2:lt z y=false):lt x z=true:=by
 rcases h.dw x z y h1 with h3|h3
 ·exact h3
 ·rw[h2]at h3;cases h3
theorem Ord.LX(h:Ord lt){x y z:α}(h1:lt y x=false)(h2:lt y z=true):lt x z=true:=by
 rcases h.dw y x z h2 with h3|h3
 ·rw[h1]at h3;cases h3
 ·exact h3
def aR(lt:α→α→Bool)(l:List α):Prop:=l.Pairwise fun x y=>lt y x=false
def eqv(lt:α→α→Bool)(x y:α):Bool:= !lt x y&& !lt y x
theorem oi{x y:α}:eqv lt x y=true↔lt x y=false∧lt y x=false:=by simp[eqv]
def dD(lt:α→α→Bool)(l m:List α):Prop:=∀x,l.filter (eqv lt x)=m.filter (eqv lt x)
theorem dD.refl(l:List α):dD lt l l:=fun _=>rfl
theorem dD.symm{l m:List α}(h:dD lt l m):dD lt m l:=fun x=>(h x).symm
theorem dD.trans{l m n:List α}(h:dD lt l m)(g:dD lt m n):dD lt l n:=fun x=>(h x).trans (g x)
theorem dD.app{l l' m m':List α}(h:dD lt l l')(g:dD lt m m'):dD lt (l++m) (l'++m'):=fun x=>by rw[List.filter_append,List.filter_append,h x,g x]
theorem xU(ho:Ord lt)(x:α):eqv lt x x=true:=oi.2 ⟨ho.F7 x,ho.F7 x⟩
theorem dD.mem(ho:Ord lt){l m:List α}(h:dD lt l m){x:α}(hx:x∈l):x∈m:=by
 have:x∈l.filter (eqv lt x):=List.mem_filter.2 ⟨hx,xU ho x⟩
 rw[h x]at this
 exact(List.mem_filter.1 this).1
theorem dD.mem_iff(ho:Ord lt){l m:List α}(h:dD lt l m){x:α}:x∈l↔x∈m:=⟨h.mem ho,h.symm.mem ho⟩
theorem dD.swap(ho:Ord lt){u v:List α}(h:∀x∈u,∀y∈v,lt y x=true):dD lt (u++v) (v++u):=by
 intro c
 rw[List.filter_append,List.filter_append]
 by_cases hu:∃x∈u,eqv lt c x=true
 ·obtain⟨x,hx,hc⟩:=hu
  have:v.filter (eqv lt c)=[]:=by
   rw[List.filter_eq_nil_iff]
   intro y hy hcy
   have h1:=oi.1 hc
   have h2:=oi.1 hcy
   have h3:=h x hx y hy
   rcases ho.dw y c x h3 with h4|h4
   ·rw[h2.2]at h4;cases h4
   ·rw[h1.1]at h4;cases h4
  rw[this];simp
 ·have:u.filter (eqv lt c)=[]:=by
   rw[List.filter_eq_nil_iff]
   intro x hx hc
   exact hu ⟨x,hx,hc⟩
  rw[this];simp
theorem uniq(ho:Ord lt):∀{l m:List α},aR lt l→aR lt m→dD lt l m→l=m
 |[],[],_,_,_=>rfl
 |[],b::t,_,_,h=>by have:=h.symm.mem ho (List.mem_cons_self (a:=b) (l:=t));simp at this
 |a::t,[],_,_,h=>by have:=h.mem ho (List.mem_cons_self (a:=a) (l:=t));simp at this
 |a::t,b::t',hl,hm,h=>by
  have ha:a∈b::t':=h.mem ho (List.mem_cons_self ..)
  have hb:b∈a::t:=h.symm.mem ho (List.mem_cons_self ..)
  have h1:lt a b=false:=by
   rcases List.mem_cons.1 ha with rfl|ha
   ·exact ho.F7 _
   ·exact(List.pairwise_cons.1 hm).1 a ha
  have h2:lt b a=false:=by
   rcases List.mem_cons.1 hb with rfl|hb
   ·exact ho.F7 _
   ·exact(List.pairwise_cons.1 hl).1 b hb
  have e1:eqv lt a a=true:=xU ho a
  have e2:eqv lt a b=true:=oi.2 ⟨h1,h2⟩
  have h3:=h a
  rw[List.filter_cons_of_pos e1,List.filter_cons_of_pos e2]at h3
  obtain rfl:a=b:=(List.cons.inj h3).1
  have:t=t':=uniq ho (List.pairwise_cons.1 hl).2 (List.pairwise_cons.1 hm).2 fun x=>by
   have h4:=h x
   by_cases hx:eqv lt x a=true
   ·rw[List.filter_cons_of_pos hx,List.filter_cons_of_pos hx]at h4
    exact(List.cons.inj h4).2
   ·rw[List.filter_cons_of_neg hx,List.filter_cons_of_neg hx]at h4
    exact h4
  rw[this]
def ins(lt:α→α→Bool)(x:α):List α→List α
 |[]=>[x]
 |y::t=>if lt y x then y::ins lt x t else x::y::t
def ct(lt:α→α→Bool)(l:List α):List α:=l.foldr (ins lt) []
theorem Dv{x z:α}:∀{l:List α},z∈ins lt x l↔z=x∨z∈l
 |[]=>by simp[ins]
 |y::t=>by
  unfold ins
  split
  ·rw[List.mem_cons,Dv,List.mem_cons]
   constructor
   ·rintro(h|h|h)
    ·exact .inr (.inl h)
    ·exact .inl h
    ·exact .inr (.inr h)
   ·rintro(h|h|h)
    ·exact .inr (.inl h)
    ·exact .inl h
    ·exact .inr (.inr h)
  ·simp
theorem sE(ho:Ord lt)(x:α):∀{l:List α},aR lt l→aR lt (ins lt x l)
 |[],_=>by simp[ins,aR]
 |y::t,h=>by
  have h':=List.pairwise_cons.1 h
  unfold ins
  split
  ·rename_i hy
   refine List.pairwise_cons.2 ⟨fun z hz=>?_,sE ho x h'.2⟩
   rcases Dv.1 hz with rfl|hz
   ·exact ho.xb _ _ hy
   ·exact h'.1 z hz
  ·rename_i hy
   have hy:lt y x=false:=by simpa using hy
   refine List.pairwise_cons.2 ⟨fun z hz=>?_,h⟩
   rcases List.mem_cons.1 hz with rfl|hz
   ·exact hy
   ·exact ho.le_trans hy (h'.1 z hz)
theorem xY(ho:Ord lt)(x:α):∀l:List α,dD lt (ins lt x l) (x::l)
 |[]=> .refl _
 |y::t=>by
  unfold ins
  split
  ·rename_i hy
   have h1:dD lt ([y]++ins lt x t) ([y]++(x::t)):=dD.app (.refl _) (xY ho x t)
   refine h1.trans ?_
   have h2:dD lt ([y]++[x]) ([x]++[y]):=(dD.swap ho (u:=[x]) (v:=[y]) (by simpa using hy)).symm
   have:=dD.app h2 (.refl t)
   simpa using this
  ·exact .refl _
theorem dC(ho:Ord lt):∀l:List α,aR lt (ct lt l)
 |[]=>List.Pairwise.nil
 |x::l=>sE ho x (dC ho l)
theorem fy(ho:Ord lt):∀l:List α,dD lt (ct lt l) l
 |[]=> .refl _
 |x::l=>(xY ho x _).trans (dD.app (l:=[x]) (.refl _) (fy ho l))
theorem C8(x:α):∀l:List α,(ins lt x l).length=l.length+1
 |[]=>rfl
 |y::t=>by unfold ins;split<;>simp[C8 x t]
theorem dm:∀l:List α,(ct lt l).length=l.length
 |[]=>rfl
 |x::l=>by
  show(ins lt x (ct lt l)).length=_
  rw[C8,dm l];rfl
theorem pZ(ho:Ord lt){l:List α}{x:α}:x∈ct lt l↔x∈l:=(fy ho l).mem_iff ho
theorem oh(ho:Ord lt){l m:List α}(h1:aR lt m)(h2:dD lt m l):ct lt l=m:=uniq ho (dC ho l) h1 ((fy ho l).trans h2.symm)
theorem fF(ho:Ord lt){l:List α}(h:aR lt l):ct lt l=l:=oh ho h (.refl _)
theorem aR.app{l m:List α}(hl:aR lt l)(hm:aR lt m)(h:∀x∈l,∀y∈m,lt y x=false):aR lt (l++m):=List.pairwise_append.2 ⟨hl,hm,h⟩
theorem aR.left{l m:List α}(h:aR lt (l++m)):aR lt l:=(List.pairwise_append.1 h).1
theorem aR.right{l m:List α}(h:aR lt (l++m)):aR lt m:=(List.pairwise_append.1 h).2.1
theorem aR.C3{l m:List α}(h:aR lt (l++m)):∀x∈l,∀y∈m,lt y x=false:=(List.pairwise_append.1 h).2.2
theorem insert_eq(ho:Ord lt){A B l:List α}{x:α}(hS:A++B=ct lt l)(hB:∀y∈B,lt x y=true)(hA:∀y∈A,lt x y=false):A++x::B=ct lt (l++[x]):=by
 refine(oh ho ?_ ?_).symm
 ·have hs:=dC ho l
  rw[←hS]at hs
  refine aR.app hs.left (List.pairwise_cons.2 ⟨fun y hy=>ho.xb _ _ (hB y hy),hs.right⟩) ?_
  intro y hy z hz
  rcases List.mem_cons.1 hz with rfl|hz
  ·exact hA y hy
  ·exact hs.C3 y hy z hz
 ·have h1:dD lt (x::B) (B++[x]):=(dD.swap ho (u:=B) (v:=[x]) (by simpa using hB)).symm
  have h2:dD lt (A++x::B) ((A++B)++[x]):=by rw[List.append_assoc];exact dD.app (.refl A) h1
  refine h2.trans (dD.app ?_ (.refl _))
  rw[hS]
  exact fy ho l
theorem Kn(ho:Ord lt){A U V B:List α}(h1:aR lt (A++U))(h2:aR lt (V++B))(h3:∀u∈U,∀v∈V,lt v u=true)(h4:∀x∈A,∀y∈B,lt y x=false):
  ct lt (A++V)++ct lt (U++B)=ct lt ((A++U)++(V++B)):=by
 refine(oh ho ?_ ?_).symm
 ·refine aR.app (dC ho _) (dC ho _) fun x hx y hy=>?_
  rw[pZ ho,List.mem_append]at hx hy
  rcases hx with hx|hx<;>rcases hy with hy|hy
  ·exact h1.C3 x hx y hy
  ·exact h4 x hx y hy
  ·exact ho.xb _ _ (h3 y hy x hx)
  ·exact h2.C3 x hx y hy
 ·refine(dD.app (fy ho _) (fy ho _)).trans ?_
  have:=dD.app (dD.app (.refl A) (dD.swap ho h3).symm) (.refl B)
  simpa[List.append_assoc]using this
theorem aR.get(h:aR lt l){i j:Nat}(hi:i<j){x y:α}(hx:l[i]?=some x)(hy:l[j]?=some y):lt y x=false:=by
 obtain⟨h1,rfl⟩:=List.getElem?_eq_some_iff.1 hx
 obtain⟨h2,rfl⟩:=List.getElem?_eq_some_iff.1 hy
 exact List.pairwise_iff_getElem.1 h i j h1 h2 hi
theorem aR.nU(ho:Ord lt)(h:aR lt l){i j:Nat}(hi:i≤j){x y:α}(hx:l[i]?=some x)(hy:l[j]?=some y):lt y x=false:=by
 rcases Nat.lt_or_ge i j with h1|h1
 ·exact h.get h1 hx hy
 ·obtain rfl:i=j:=by omega
  rw[hx]at hy;cases hy
  exact ho.F7 _
theorem vr(ho:Ord lt){X Y:List α}(hX:aR lt X)(hY:aR lt Y){s e:Nat}(hs:s≤X.length)(he:e≤Y.length)
  (hu:s=X.length∨e=0∨∃x y,X[s]?=some x∧Y[e-1]?=some y∧lt y x=true) (hl:s=0∨e=Y.length∨∃x y,X[s-1]?=some x∧Y[e]?=some y∧lt y x=false):
  ct lt (X.take s++Y.take e)++ct lt (X.drop s++Y.drop e)=ct lt (X++Y):=by
 have key:=Kn ho (A:=X.take s) (U:=X.drop s) (V:=Y.take e) (B:=Y.drop e) (by rw[List.take_append_drop];exact hX) (by rw[List.take_append_drop];exact hY) ?_ ?_
 ·rwa[List.take_append_drop,List.take_append_drop]at key
 ·intro u hu' v hv'
  obtain⟨i,hi⟩:=List.getElem?_of_mem hu'
  obtain⟨j,hj⟩:=List.getElem?_of_mem hv'
  rw[List.getElem?_drop]at hi
  have hj':=(List.getElem?_eq_some_iff.1 hj).1
  simp only[List.length_take]at hj'
  rw[List.getElem?_take,if_pos (by omega)]at hj
  have hi':=(List.getElem?_eq_some_iff.1 hi).1
  rcases hu with h|h|⟨x,y,hx,hy,h⟩
  ·omega
  ·omega
  ·have h5:=hX.nU ho (show s≤s+i by omega) hx hi
   have h6:=hY.nU ho (show j≤e-1 by omega) hj hy
   exact ho.JJ (ho.LX h6 h) h5
 ·intro x hx' y hy'
  obtain⟨i,hi⟩:=List.getElem?_of_mem hx'
  obtain⟨j,hj⟩:=List.getElem?_of_mem hy'
  rw[List.getElem?_drop]at hj
  have hi':=(List.getElem?_eq_some_iff.1 hi).1
  simp only[List.length_take]at hi'
  rw[List.getElem?_take,if_pos (by omega)]at hi
  have hj':=(List.getElem?_eq_some_iff.1 hj).1
  rcases hl with h|h|⟨x0,y0,hx,hy,h⟩
  ·omega
  ·omega
  ·have h5:=hX.nU ho (show i≤s-1 by omega) hi hx
   have h6:=hY.nU ho (show e≤e+j by omega) hy hj
   exact ho.le_trans h5 (ho.le_trans h h6)
theorem FC(ho:Ord lt){x:α}{Y:List α}(hY:aR lt Y){e:Nat}(he:e≤Y.length)(hu:e=0∨∃y,Y[e-1]?=some y∧lt y x=true)(hl:e=Y.length∨∃y,Y[e]?=some y∧lt y x=false):
  Y.take e++x::Y.drop e=ct lt (x::Y):=by
 have key:=vr ho (X:=[x]) (s:=0) (by simp[aR]) hY (by simp) he (by rcases hu with h|⟨y,h1,h2⟩;exact .inr (.inl h);exact .inr (.inr ⟨x,y,rfl,h1,h2⟩)) (.inl rfl)
 have h1:aR lt (Y.take e):=by have:=hY;rw[←List.take_append_drop e Y]at this;exact this.left
 have h2:aR lt (x::Y.drop e):=by
  have h3:aR lt (Y.drop e):=by have:=hY;rw[←List.take_append_drop e Y]at this;exact this.right
  refine List.pairwise_cons.2 ⟨fun y hy=>?_,h3⟩
  obtain⟨j,hj⟩:=List.getElem?_of_mem hy
  rw[List.getElem?_drop]at hj
  rcases hl with h|⟨y0,hy0,h⟩
  ·have:=(List.getElem?_eq_some_iff.1 hj).1;omega
  ·exact ho.le_trans h (hY.nU ho (Nat.le_add_right _ _) hy0 hj)
 simp only[List.take_zero,List.nil_append,List.drop_zero,List.singleton_append]at key
 rw[fF ho h1,fF ho h2]at key
 exact key
theorem BI(ho:Ord lt){x:α}{X:List α}(hX:aR lt X){s:Nat}(hs:s≤X.length)(hu:s=X.length∨∃y,X[s]?=some y∧lt x y=true)(hl:s=0∨∃y,X[s-1]?=some y∧lt x y=false):
  X.take s++x::X.drop s=ct lt (X++[x]):=by
 refine insert_eq ho (by rw[List.take_append_drop,fF ho hX]) (fun y hy=>?_) fun y hy=>?_
 ·obtain⟨j,hj⟩:=List.getElem?_of_mem hy
  rw[List.getElem?_drop]at hj
  rcases hu with h|⟨y0,h1,h2⟩
  ·have:=(List.getElem?_eq_some_iff.1 hj).1;omega
  ·exact ho.JJ h2 (hX.nU ho (Nat.le_add_right _ _) h1 hj)
 ·obtain⟨j,hj⟩:=List.getElem?_of_mem hy
  have hj':=(List.getElem?_eq_some_iff.1 hj).1
  simp only[List.length_take]at hj'
  rw[List.getElem?_take,if_pos (by omega)]at hj
  rcases hl with h|⟨y0,h1,h2⟩
  ·omega
  ·exact ho.le_trans (hX.nU ho (show j≤s-1 by omega) hj h1) h2
def G0(lt:α→α→Bool)(s:Nat)(l:List α):Prop:=∀k,aR lt ((l.drop (k* s)).take s)
theorem G0.all{s:Nat}{l:List α}(h:G0 lt s l)(hs:l.length≤s):aR lt l:=by
 have:=h 0
 rwa[Nat.zero_mul,List.drop_zero,List.take_of_length_le hs]at this
end St
end Go.Proofs.YtmbagpfmfiegkaaGreat
namespace Go.Proofs.YtmbagpfmfiegkaaGreat
open Go.Proofs.YtmbagpfmfiegkaaGreatAw Go.RowKit
structure kM {α:Type} (c:α→α→Int):Prop where
 fC:∀x y,c x y<0↔0<c y x
 dw:∀x y z,c x z<0→c x y<0∨c y z<0
def iR{α:Type}(c:α→α→Int)(x y:α):Bool:=decide (c x y<0)
theorem kM.ord{α:Type}{c:α→α→Int}(h:kM c):St.Ord (iR c)where
 xb x y hx:=by
  simp only[iR,decide_eq_true_eq,decide_eq_false_iff_not]at hx⊢
  have:=(h.fC x y).1 hx
  omega
 dw x y z hx:=by
  simp only[iR,decide_eq_true_eq]at hx⊢
  exact h.dw x y z hx
theorem kM.zero{α:Type}{c:α→α→Int}(h:kM c)(x y:α):c x y=0↔c y x=0:=by
 have h1:=h.fC x y
 have h2:=h.fC y x
 omega
theorem kM.self{α:Type}{c:α→α→Int}(h:kM c)(x:α):c x x=0:=by
 have h1:=h.fC x x
 omega
theorem kM.le_trans{α:Type}{c:α→α→Int}(h:kM c){x y z:α}(h1:c x y≤0)(h2:c y z≤0):c x z≤0:=by
 have a1:=h.fC y x
 have a2:=h.fC z y
 have a3:=h.fC z x
 have:=h.dw z y x
 omega
theorem kM.ed{α:Type}{c:α→α→Int}(h:kM c){x y z:α}(h1:c x y=0)(h2:c y z=0):c x z=0:=by
 have a1:=h.le_trans (x:=x) (y:=y) (z:=z) (by omega) (by omega)
 have a2:=h.le_trans (x:=z) (y:=y) (z:=x) (by have:=(h.zero y z).1 h2;omega) (by have:=(h.zero x y).1 h1;omega)
 have a3:=h.fC x z
 have a4:=h.fC z x
 omega
theorem kM.lex{α:Type}{c d e:α→α→Int}(h:kM c)(h1:∀x y,c x y≠0→e x y=c x y)(h2:∀x y,c x y=0→e x y=d x y)(da:∀x y,c x y=0→(d x y<0↔0<d y x))(dn:∀x y z,c x y=0→c y z=0→d x z<0→d x y<0∨d y z<0):kM e where
 fC x y:=by
  by_cases hc:c x y=0
  ·rw[h2 x y hc,h2 y x ((h.zero x y).1 hc)]
   exact da x y hc
  ·rw[h1 x y hc,h1 y x fun h0=>hc ((h.zero x y).2 h0)]
   exact h.fC x y
 dw x y z hx:=by
  by_cases hxy:c x y=0
  ·by_cases hyz:c y z=0
   ·have hxz:=h.ed hxy hyz
    rw[h2 x z hxz]at hx
    rw[h2 x y hxy,h2 y z hyz]
    exact dn x y z hxy hyz hx
   ·have hxz:c x z≠0:=fun h0=>hyz (h.ed ((h.zero x y).1 hxy) h0)
    rw[h1 x z hxz]at hx
    rw[h1 y z hyz]
    rcases h.dw x y z hx with h3|h3
    ·omega
    ·exact .inr h3
  ·by_cases hyz:c y z=0
   ·have hxz:c x z≠0:=fun h0=>hxy (h.ed h0 ((h.zero y z).1 hyz))
    rw[h1 x z hxz]at hx
    rw[h1 x y hxy]
    rcases h.dw x y z hx with h3|h3
    ·exact .inl h3
    ·omega
   ·rw[h1 x y hxy,h1 y z hyz]
    by_cases hxz:c x z=0
    ·have a1:=h.fC x y
     have a2:=h.fC y x
     have a3:=h.fC y z
     have a4:=h.fC z y
     have n1:=h.dw y x z
     have n2:=h.dw y z x
     have n3:=h.dw z x y
     have z1:=(h.zero x z).1 hxz
     omega
    ·rw[h1 x z hxz]at hx
     exact h.dw x y z hx
theorem H6{α:Type}{lt:α→α→Bool}{c:α→α→Int}(ho:St.Ord lt)(h1:∀x y,lt x y=true→c x y<0)(h2:∀x y,lt x y=false→lt y x=true→0<c x y)(h3:∀x y,lt x y=false→lt y x=false→c x y=0):kM c where
 fC x y:=by
  cases hx:lt x y with
  |true=>have:=h1 x y hx;have:=h2 y x (ho.xb x y hx) hx;omega
  |false=>
   cases hy:lt y x with
   |true=>have:=h1 y x hy;have:=h2 x y hx hy;omega
   |false=>have:=h3 x y hx hy;have:=h3 y x hy hx;omega
 dw x y z hx:=by
  have hl:lt x z=true:=by
   cases e:lt x z with
   |true=>rfl
   |false=>
    cases e2:lt z x with
    |true=>have:=h2 x z e e2;omega
    |false=>have:=h3 x z e e2;omega
  rcases ho.dw x y z hl with h|h
  ·exact .inl (h1 x y h)
  ·exact .inr (h1 y z h)
theorem rY:kM iw where
 fC x y:=by
  unfold iw eZ
  by_cases h1:x<y<;>by_cases h2:y<x<;>simp[h1,h2]<;>omega
 dw x y z:=by
  unfold iw eZ
  by_cases h1:x<y<;>by_cases h2:y<x<;>by_cases h3:y<z<;>by_cases h4:z<y<;>by_cases h5:x<z<;>by_cases h6:z<x<;>simp[h1,h2,h3,h4,h5,h6]<;>omega
theorem kJ{a b:Int}:iw a b=0↔a=b:=by
 unfold iw eZ
 by_cases h1:a<b<;>by_cases h2:b<a<;>simp[h1,h2]<;>omega
theorem JB(a b:Nat):yk a b=iw (dR a) (dR b):=by
 unfold yk iw eZ
 simp[Int.ofNat_lt]
theorem j3:∀l:List UInt8,Op.bytesLess l l=false
 |[]=>rfl
 |a::l=>by simp[Op.bytesLess,j3 l]
theorem me:∀l m:List UInt8,Op.bytesLess l m=true→Op.bytesLess m l=false
 |_,[],h=>by simp[Op.bytesLess]at h
 |[],_::_,_=>rfl
 |a::l,b::m,h=>by
  simp only[Op.bytesLess,Bool.or_eq_true,decide_eq_true_eq,Bool.and_eq_true,beq_iff_eq]at h
  simp only[Op.bytesLess,Bool.or_eq_false_iff,decide_eq_false_iff_not,Bool.and_eq_false_iff,beq_eq_false_iff_ne]
  rcases h with h|⟨rfl,h⟩
  ·exact⟨fun h2=>UInt8.lt_asymm h h2,.inl fun e=>by subst e;exact UInt8.lt_irrefl _ h⟩
  ·exact⟨UInt8.lt_irrefl _,.inr (me l m h)⟩
theorem jW:∀l m:List UInt8,Op.bytesLess l m=false→Op.bytesLess m l=false→l=m
 |[],[],_,_=>rfl
 |[],_::_,h,_=>by simp[Op.bytesLess]at h
 |_::_,[],_,h=>by simp[Op.bytesLess]at h
 |a::l,b::m,h1,h2=>by
  simp only[Op.bytesLess,Bool.or_eq_false_iff,decide_eq_false_iff_not,Bool.and_eq_false_iff,beq_eq_false_iff_ne]at h1 h2
  have e:a=b:=UInt8.le_antisymm (UInt8.not_lt.1 h2.1) (UInt8.not_lt.1 h1.1)
  subst e
  rcases h1.2 with h|h
  ·exact absurd rfl h
  ·rcases h2.2 with g|g
   ·exact absurd rfl g
   ·rw[jW l m h g]
theorem lF:∀l m n:List UInt8,Op.bytesLess l m=true→Op.bytesLess m n=true→Op.bytesLess l n=true
 |_,_,[],_,h=>by simp[Op.bytesLess]at h
 |[],_,_::_,_,_=>rfl
 |_::_,[],_::_,h,_=>by simp[Op.bytesLess]at h
 |a::l,b::m,c::n,h1,h2=>by
  simp only[Op.bytesLess,Bool.or_eq_true,decide_eq_true_eq,Bool.and_eq_true,beq_iff_eq]at h1 h2⊢
  rcases h1 with h1|⟨rfl,h1⟩
  ·rcases h2 with h2|⟨rfl,h2⟩
   ·exact .inl (UInt8.lt_trans h1 h2)
   ·exact .inl h1
  ·rcases h2 with h2|⟨rfl,h2⟩
   ·exact .inl h2
   ·exact .inr ⟨rfl,lF l m n h1 h2⟩
theorem Fw:St.Ord nm where
 xb x y h:=me _ _ h
 dw x y z h:=by
  unfold nm at*
  cases h1:Op.bytesLess x.toList y.toList with
  |true=>exact .inl rfl
  |false=>
   right
   cases h2:Op.bytesLess y.toList x.toList with
   |true=>exact lF _ _ _ h2 h
   |false=>rw[←jW _ _ h1 h2];exact h
theorem GZ:kM nK:=by
 refine H6 Fw (fun x y h=>?_) (fun x y h g=>?_) fun x y h g=>?_
 ·unfold nK eZ;simp[h]
 ·unfold nK eZ
  have:(x.toList==y.toList)=false:=by
   rw[beq_eq_false_iff_ne]
   intro e
   unfold nm at g
   rw[e,j3]at g;cases g
  simp[h,this]
 ·unfold nK eZ
  have e:=jW _ _ h g
  simp[h,e]
theorem Eh{a b:ByteArray}:nK a b=0↔a=b:=by
 unfold nK eZ
 constructor
 ·intro h
  cases h1:nm a b with
  |true=>simp[h1]at h
  |false=>
   simp only[h1,Bool.false_eq_true,if_false,Bool.false_or]at h
   cases h2:a.toList==b.toList with
   |false=>simp[h2]at h
   |true=>exact toList_inj (by simpa using h2)
 ·rintro rfl
  have:nm a a=false:=j3 _
  simp[this]
def EU(v:aq):Int:=dR (iW v.i)
theorem kM.Dm{α β:Type}{c:α→α→Int}(h:kM c)(f:β→α):kM (fun x y=>c (f x) (f y)):=⟨fun x y=>h.fC _ _,fun x y z=>h.dw _ _ _⟩
def qU(k:Int)(a b:aq):Int:=if k=1 then iw a.i b.i else if k=2 then iw (EU a) (EU b)else if k=3 then nK a.s b.s else 0
theorem Dw(a b:aq):aM a b=if iw a.kind b.kind≠0 then iw a.kind b.kind else qU a.kind a b:=by
 unfold aM qU
 simp only[JB,←show ∀v:aq,EU v=dR (iW v.i)from fun _=>rfl]
 by_cases h:a.kind=b.kind
 ·simp[h,kJ]
 ·simp[h,kJ]
theorem GR{α:Type}:kM (fun _ _:α=>(0:Int)):=⟨fun _ _=>by simp,fun _ _ _ h=>by simp at h⟩
theorem y9(k:Int):kM (qU k):=by
 by_cases k1:k=1
 ·have:qU k=fun a b=>iw a.i b.i:=by funext a b;unfold qU;rw[if_pos k1]
  rw[this];exact rY.Dm aq.i
 ·by_cases k2:k=2
  ·have:qU k=fun a b=>iw (EU a) (EU b):=by funext a b;unfold qU;rw[if_neg k1,if_pos k2]
   rw[this];exact rY.Dm EU
  ·by_cases k3:k=3
   ·have:qU k=fun a b=>nK a.s b.s:=by funext a b;unfold qU;rw[if_neg k1,if_neg k2,if_pos k3]
    rw[this];exact GZ.Dm aq.s
   ·have:qU k=fun a b=>0:=by funext a b;unfold qU;rw[if_neg k1,if_neg k2,if_neg k3]
    rw[this];exact GR
theorem aG:kM aM:=by
 refine kM.lex (c:=fun a b=>iw a.kind b.kind) (d:=fun a b=>qU a.kind a b) (rY.Dm aq.kind) (fun x y h=>by rw[Dw,if_pos h]) (fun x y h=>by rw[Dw,if_neg (by simpa using h)]) (fun x y h=>?_) fun x y z h1 h2=>?_
 ·have h:=kJ.1 h
  rw[h]
  exact(y9 _).fC x y
 ·have h1:=kJ.1 h1
  rw[h1]
  exact(y9 _).dw x y z
end Go.Proofs.YtmbagpfmfiegkaaGreat
namespace Go.Proofs.YtmbagpfmfiegkaaGreat
namespace St
variable {α:Type} {eq:α→α→Bool}
def nB(eq:α→α→Bool):α→List α→List α
 |_,[]=>[]
 |p,y::t=>if eq y p=true then nB eq y t else y::nB eq y t
def bC(eq:α→α→Bool):List α→List α
 |[]=>[]
 |x::t=>x::nB eq x t
theorem zo:∀(p:α) (t:List α) (x:α),nB eq p (t++[x])=nB eq p t++(if eq x ((p::t).getLast (by simp))=true then[]else[x])
 |p,[],x=>by cases h:eq x p<;>simp[nB,h]
 |p,y::t,x=>by
  simp only[List.cons_append,nB,zo y t x]
  have e:(p::y::t).getLast (by simp)=(y::t).getLast (by simp):=List.getLast_cons (by simp)
  rw[e]
  by_cases h:eq y p=true
  ·simp[h]
  ·simp[h]
theorem nj{M:List α}{x y:α}{k:Nat}(hk:M.length=k+1)(hy:M[k]?=some y):bC eq (M++[x])=bC eq M++(if eq x y=true then[]else[x]):=by
 cases M with
 |nil=>simp at hk
 |cons p t=>
  simp only[List.cons_append,bC,zo]
  have:(p::t).getLast (by simp)=y:=by
   rw[List.getLast_eq_getElem]
   have h:=List.getElem?_eq_some_iff.1 hy
   obtain⟨h1,h2⟩:=h
   simp only[List.length_cons]at hk
   simp only[List.length_cons,show t.length+1-1=k by omega]
   exact h2
  rw[this]
theorem Jd(p:α)(t:List α):(nB eq p t).length≤t.length:=by
 induction t generalizing p with
 |nil=>simp[nB]
 |cons y t ih=>unfold nB;split<;>simp;exact Nat.le_succ_of_le (ih y);exact ih y
theorem ln(l:List α):(bC eq l).length≤l.length:=by
 cases l with
 |nil=>simp[bC]
 |cons x t=>simpa[bC]using Jd x t
end St
end Go.Proofs.YtmbagpfmfiegkaaGreat
namespace Go.Proofs.YtmbagpfmfiegkaaGreat
open Go.Proofs.YtmbagpfmfiegkaaGreatAw Go.RowKit
theorem wu{α:Type}{eq:α→α→Bool}:∀{t:List α} {p x:α},x∈St.nB eq p t→x∈t
 |[],_,_,h=>by simp[St.nB]at h
 |y::t,p,x,h=>by
  unfold St.nB at h
  split at h
  ·exact List.mem_cons_of_mem _ (wu h)
  ·rcases List.mem_cons.1 h with rfl|h
   ·exact List.mem_cons_self ..
   ·exact List.mem_cons_of_mem _ (wu h)
theorem wz{α:Type}{eq:α→α→Bool}{l:List α}{x:α}(h:x∈St.bC eq l):x∈l:=by
 cases l with
 |nil=>simp[St.bC]at h
 |cons y t=>
  rcases List.mem_cons.1 h with rfl|h
  ·exact List.mem_cons_self ..
  ·exact List.mem_cons_of_mem _ (wu h)
theorem lv{α:Type}{c:α→α→Int}(ht:kM c):∀{t:List α} {p:α},St.aR (iR c) (p::t)→(p::St.nB (fun a b=>decide (c a b=0)) p t).Pairwise (fun x y=>iR c x y=true)∧∀x∈t,∃y∈p::St.nB (fun a b=>decide (c a b=0)) p t,c x y=0
 |[],p,_=>by simp[St.nB]
 |y::t,p,h=>by
  have h1:=List.pairwise_cons.1 h
  have h2:=List.pairwise_cons.1 h1.2
  have hp:iR c y p=false:=h1.1 y (by simp)
  unfold St.nB
  by_cases he:c y p=0
  ·rw[if_pos (by simpa using he)]
   have hs:St.aR (iR c) (p::t):=List.pairwise_cons.2 ⟨fun z hz=>h1.1 z (by simp[hz]),h2.2⟩
   have key:∀(t:List α) (y p:α),c y p=0→St.nB (fun a b=>decide (c a b=0)) y t=St.nB (fun a b=>decide (c a b=0)) p t:=by
    intro t
    cases t with
    |nil=>intros;rfl
    |cons z t=>
     intro y p h
     unfold St.nB
     have:decide (c z y=0)=decide (c z p=0):=by
      rw[Bool.eq_iff_iff,decide_eq_true_eq,decide_eq_true_eq]
      exact⟨fun g=>ht.ed g h,fun g=>ht.ed g ((ht.zero y p).1 h)⟩
     rw[this]
   rw[key t y p he]
   obtain⟨i1,i2⟩:=lv ht hs
   refine⟨i1,fun x hx=>?_⟩
   rcases List.mem_cons.1 hx with rfl|hx
   ·exact⟨p,by simp,he⟩
   ·exact i2 x hx
  ·rw[if_neg (by simpa using he)]
   obtain⟨i1,i2⟩:=lv ht h1.2
   have hlt:iR c p y=true:=by
    simp only[iR,decide_eq_true_eq,decide_eq_false_iff_not]at hp⊢
    have:=ht.fC p y
    omega
   refine⟨List.pairwise_cons.2 ⟨fun z hz=>?_,i1⟩,fun x hx=>?_⟩
   ·rcases List.mem_cons.1 hz with rfl|hz
    ·exact hlt
    ·exact ht.ord.trans hlt ((List.pairwise_cons.1 i1).1 z hz)
   ·rcases List.mem_cons.1 hx with rfl|hx
    ·exact⟨x,by simp,ht.self x⟩
    ·obtain⟨z,hz,hc⟩:=i2 x hx
     exact⟨z,List.mem_cons_of_mem _ hz,hc⟩
theorem mh{α:Type}{c:α→α→Int}(ht:kM c){l:List α}(h:St.aR (iR c) l):(St.bC (fun a b=>decide (c a b=0)) l).Pairwise (fun x y=>iR c x y=true)∧∀x∈l,∃y∈St.bC (fun a b=>decide (c a b=0)) l,c x y=0:=by
 cases l with
 |nil=>simp[St.bC]
 |cons p t=>
  obtain⟨h1,h2⟩:=lv ht h
  refine⟨h1,fun x hx=>?_⟩
  rcases List.mem_cons.1 hx with rfl|hx
  ·exact⟨x,by simp[St.bC],ht.self x⟩
  ·exact h2 x hx
theorem xq{α:Type}{c:α→α→Int}(ht:kM c):∀{l:List α},l.Pairwise (fun x y=>iR c x y=true)→St.bC (fun a b=>decide (c a b=0)) l=l:=by
 intro l h
 cases l with
 |nil=>rfl
 |cons p t=>
  simp only[St.bC]
  congr 1
  induction t generalizing p with
  |nil=>rfl
  |cons y t ih=>
   have h1:=List.pairwise_cons.1 h
   unfold St.nB
   have:¬c y p=0:=fun e=>by
    have h3:=h1.1 y (by simp)
    simp only[iR,decide_eq_true_eq]at h3
    have:=(ht.zero y p).1 e
    omega
   rw[if_neg (by simpa using this)]
   congr 1
   exact ih y h1.2
theorem yy{α:Type}{c:α→α→Int}(ht:kM c){l:List α}(h:l.Pairwise (fun x y=>iR c x y=true)):St.aR (iR c) l:=h.imp fun{x y} hx=>ht.ord.xb x y hx
def a7{α:Type}(c:α→α→Int)(l:List α):List α:=St.bC (fun a b=>decide (c a b=0)) (St.ct (iR c) l)
theorem sj{α:Type}{c:α→α→Int}(ht:kM c)(l:List α):(a7 c l).Pairwise (fun x y=>iR c x y=true):=(mh ht (St.dC ht.ord l)).1
theorem eU{α:Type}{c:α→α→Int}(ht:kM c){l:List α}{x:α}(h:x∈a7 c l):x∈l:=(St.pZ ht.ord).1 (wz h)
theorem DE{α:Type}{c:α→α→Int}(ht:kM c){l:List α}{x:α}(h:x∈l):∃y∈a7 c l,c x y=0:=(mh ht (St.dC ht.ord l)).2 x ((St.pZ ht.ord).2 h)
theorem Bo(n:Nat)(h:n<18446744073709551616):IntKind.u64.wrap (n:Int)=n:=by
 simp[IntKind.wrap,IntKind.signed,IntKind.bits];omega
theorem oz(b:Nat)(hb:b<18446744073709551616)(H:aa):ag Tryz.prog 110 [du b] H (.ok (.bz [bA (decide (9223372036854775808≤b)),du (b/4503599627370496%2048),du (b%4503599627370496)])) H:=by
 have e1:(b:Int).tdiv 4503599627370496=((b/4503599627370496:Nat):Int):=rfl
 have e2:((b/4503599627370496:Nat):Int).tmod 2048=((b/4503599627370496%2048:Nat):Int):=rfl
 have e3:(b:Int).tmod 4503599627370496=((b%4503599627370496:Nat):Int):=rfl
 have e4:((9223372036854775808:Int)≤(b:Int))=(9223372036854775808≤b):=by simp;omega
 refine ag.aj (hint:=(fun _=>false)) Tryz.func110 (by kernel_rfl) rfl [2,3,4] (by kernel_rfl) (by decide) (by simp[Tryz.ntmps110]) ?_
 rw[Tryz.ntmps110]
 simp -implicitDefEqProofs only[↓reduceIte,go_sem,Nat.reduceLT,Nat.reduceEqDiff,Int.reduceEq,reduceCtorEq,e1,e2,e3,Bo _ (show b/4503599627370496<18446744073709551616 by omega)]
 refine aw.aI ?_
 simp -implicitDefEqProofs only[↓reduceIte,go_sem,Nat.reduceLT,Nat.reduceEqDiff,e4]
theorem LA(b:Nat):(decide (b/4503599627370496%2048=2047)&& !decide (b%4503599627370496=0))=xn b:=by
 unfold xn
 rw[Bool.eq_iff_iff]
 simp only[Bool.and_eq_true,decide_eq_true_eq,Bool.not_eq_true',decide_eq_false_iff_not]
 omega
theorem Br(b:Nat)(hb:b<18446744073709551616)(H:aa):ag Tryz.prog 147 [du b] H (.ok (bA (xn b))) H:=by
 rw[←LA]
 have hp:=oz b hb H
 generalize b/4503599627370496%2048=e at hp⊢
 generalize b%4503599627370496=f at hp⊢
 have e1:(((e:Nat):Int)=2047)=(e=2047):=by simp;omega
 have e2:(((f:Nat):Int)=0)=(f=0):=by simp
 refine ag.aj (hint:=(fun _=>false)) Tryz.func147 (by kernel_rfl) rfl [2] (by kernel_rfl) (by decide) (by simp[Tryz.ntmps147]) ?_
 rw[Tryz.ntmps147]
 simp -implicitDefEqProofs only[↓reduceIte,go_sem,Nat.reduceLT,reduceCtorEq]
 refine ae.ok hp ?_
 simp -implicitDefEqProofs only[↓reduceIte,go_sem,Nat.reduceLT,Nat.reduceEqDiff]
 by_cases h:e=2047
 ·simp -implicitDefEqProofs only[↓reduceIte,go_sem,Nat.reduceLT,Nat.reduceEqDiff,e2,h]
  refine aw.aI ?_
  simp -implicitDefEqProofs only[↓reduceIte,go_sem,Nat.reduceLT,h]
 ·simp -implicitDefEqProofs only[↓reduceIte,go_sem,Nat.reduceLT,Nat.reduceEqDiff,reduceCtorEq,e1,h]
  refine aw.aI ?_
  simp -implicitDefEqProofs only[↓reduceIte,go_sem,Nat.reduceLT,h]
theorem iX(b:Nat)(hb:b<18446744073709551616)(H:aa):ag Tryz.prog 109 [du b] H (.ok (du (dP b))) H:=by
 unfold dP
 refine ag.aj (hint:=(fun _=>false)) Tryz.func109 (by kernel_rfl) rfl [2] (by kernel_rfl) (by decide) (by simp[Tryz.ntmps109]) ?_
 rw[Tryz.ntmps109]
 simp -implicitDefEqProofs only[↓reduceIte,go_sem,Nat.reduceLT,reduceCtorEq]
 refine ae.ok (Br b hb _) ?_
 cases h:xn b with
 |true=>
  simp -implicitDefEqProofs only[↓reduceIte,go_sem,Nat.reduceLT]
  refine aw.aI ?_
  simp -implicitDefEqProofs only[↓reduceIte,go_sem,Nat.reduceLT]
  rfl
 |false=>
  simp -implicitDefEqProofs only[↓reduceIte,go_sem,Nat.reduceLT,reduceCtorEq]
  refine aw.aI ?_
  simp -implicitDefEqProofs only[↓reduceIte,go_sem,Nat.reduceLT,Bool.false_eq_true]
theorem kS(b:Nat)(hb:b<18446744073709551616)(H:aa):ag Tryz.prog 70 [du b] H (.ok (du (dR b))) H:=by
 have hc:=iX b hb H
 have hlt:=kq b hb
 unfold dR
 generalize dP b=c at hc hlt⊢
 refine ag.aj (hint:=(fun _=>false)) Tryz.func70 (by kernel_rfl) rfl [2] (by kernel_rfl) (by decide) (by simp[Tryz.ntmps70]) ?_
 rw[Tryz.ntmps70]
 simp -implicitDefEqProofs only[↓reduceIte,go_sem,Nat.reduceLT,reduceCtorEq]
 refine ae.ok hc ?_
 simp -implicitDefEqProofs only[↓reduceIte,go_sem,Nat.reduceLT]
 refine ae.ok (oz c hlt _) ?_
 simp -implicitDefEqProofs only[↓reduceIte,go_sem,Nat.reduceLT,Nat.reduceEqDiff]
 by_cases h:9223372036854775808≤c
 ·have e1:IntKind.u64.wrap ((18446744073709551615:Int)-(c:Int))=((18446744073709551615-c:Nat):Int):=by rw[show(18446744073709551615:Int)-(c:Int)=((18446744073709551615-c:Nat):Int)from by omega];exact Bo _ (by omega)
  simp -implicitDefEqProofs only[↓reduceIte,go_sem,Nat.reduceLT,Nat.reduceEqDiff,h,e1]
  refine aw.aI ?_
  simp -implicitDefEqProofs only[↓reduceIte,go_sem,Nat.reduceLT,h]
 ·have e2:(c:Int)+9223372036854775808=((c+9223372036854775808:Nat):Int):=by omega
  have e1:IntKind.u64.wrap ((c:Int)+9223372036854775808)=((c+9223372036854775808:Nat):Int):=by rw[show(c:Int)+9223372036854775808=((c+9223372036854775808:Nat):Int)from by omega];exact Bo _ (by omega)
  simp -implicitDefEqProofs only[↓reduceIte,go_sem,Nat.reduceLT,Nat.reduceEqDiff,h,e1]
  refine aw.aI ?_
  simp -implicitDefEqProofs only[↓reduceIte,go_sem,Nat.reduceLT,h,du,Int.natCast_add]
  try rfl
theorem zx(a b:Nat)(ha:a<18446744073709551616)(hb:b<18446744073709551616)(H:aa):ag Tryz.prog 39 [du a,du b] H (.ok (iA (yk a b))) H:=by
 have k1:=kS a ha H
 have k2:=kS b hb H
 unfold yk
 generalize dR a=x at k1⊢
 generalize dR b=y at k2⊢
 refine ag.aj (hint:=(fun _=>false)) Tryz.func39 (by kernel_rfl) rfl [4] (by kernel_rfl) (by decide) (by simp[Tryz.ntmps39]) ?_
 rw[Tryz.ntmps39]
 simp -implicitDefEqProofs only[↓reduceIte,go_sem,Nat.reduceLT,Int.reduceNeg,reduceCtorEq]
 refine ae.ok k1 ?_
 simp -implicitDefEqProofs only[↓reduceIte,go_sem,Nat.reduceLT,Nat.reduceEqDiff]
 refine ae.ok k2 ?_
 simp -implicitDefEqProofs only[↓reduceIte,go_sem,Nat.reduceLT,Nat.reduceEqDiff,Int.reduceNeg]
 by_cases h:x<y
 ·refine fc (by simp -implicitDefEqProofs only[go_sem,h]) ?_
  simp -implicitDefEqProofs only[go_sem,Int.reduceNeg]
  refine aw.aI ?_
  simp -implicitDefEqProofs only[↓reduceIte,go_sem,Nat.reduceLT,Int.reduceNeg,eZ,h]
 ·refine eQ (by simp -implicitDefEqProofs only[go_sem,h]) ?_
  simp -implicitDefEqProofs only[↓reduceIte,go_sem,Nat.reduceLT,reduceCtorEq]
  refine ae.ok k1 ?_
  simp -implicitDefEqProofs only[↓reduceIte,go_sem,Nat.reduceLT,Nat.reduceEqDiff]
  refine ae.ok k2 ?_
  simp -implicitDefEqProofs only[↓reduceIte,go_sem,Nat.reduceLT,Nat.reduceEqDiff]
  by_cases h2:y<x
  ·refine fc (by simp -implicitDefEqProofs only[go_sem,h2]) ?_
   simp -implicitDefEqProofs only[go_sem]
   refine aw.aI ?_
   simp -implicitDefEqProofs only[↓reduceIte,go_sem,Nat.reduceLT,reduceCtorEq,eZ,h,h2]
  ·refine eQ (by simp -implicitDefEqProofs only[go_sem,h2]) ?_
   simp -implicitDefEqProofs only[go_sem]
   refine aw.aI ?_
   simp -implicitDefEqProofs only[↓reduceIte,go_sem,Nat.reduceLT,reduceCtorEq,eZ,h,h2]
theorem gI(less more:Bool)(H:aa):ag Tryz.prog 38 [bA less,bA more] H (.ok (iA (eZ less more))) H:=by
 unfold eZ
 refine ag.aj (hint:=(fun _=>false)) Tryz.func38 (by kernel_rfl) rfl [4] (by kernel_rfl) (by decide) (by simp[Tryz.ntmps38]) ?_
 rw[Tryz.ntmps38]
 cases less with
 |true=>
  simp -implicitDefEqProofs only[↓reduceIte,go_sem,Nat.reduceLT,Int.reduceNeg,reduceCtorEq]
  refine aw.aI ?_
  simp -implicitDefEqProofs only[↓reduceIte,go_sem,Nat.reduceLT,Int.reduceNeg]
 |false=>
  cases more with
  |true=>
   simp -implicitDefEqProofs only[↓reduceIte,go_sem,Nat.reduceLT,Nat.reduceEqDiff,Int.reduceNeg,reduceCtorEq]
   refine aw.aI ?_
   simp -implicitDefEqProofs only[↓reduceIte,go_sem,Nat.reduceLT,Bool.false_eq_true]
  |false=>
   simp -implicitDefEqProofs only[↓reduceIte,go_sem,Nat.reduceLT,Nat.reduceEqDiff,Int.reduceNeg,reduceCtorEq]
   refine aw.aI ?_
   simp -implicitDefEqProofs only[↓reduceIte,go_sem,Nat.reduceLT,Bool.false_eq_true]
def tK(a b:List UInt8):Int:=eZ (Op.bytesLess a b) (!(Op.bytesLess a b||a==b))
theorem vh(x y:UInt8)(a b:List UInt8):tK (x::a) (y::b)=if x.toNat<y.toNat then -1 else if y.toNat<x.toNat then 1 else tK a b:=by
 unfold tK
 by_cases h:x<y
 ·have h':x.toNat<y.toNat:=h
  simp[Op.bytesLess,h,h',eZ]
 ·have h':¬x.toNat<y.toNat:=h
  by_cases h2:y.toNat<x.toNat
  ·have hne:(x==y)=false:=by
    rw[beq_eq_false_iff_ne];intro e;subst e;omega
   have hne':¬x=y:=by simpa using hne
   simp[Op.bytesLess,h,h',h2,eZ,hne']
  ·have e:x=y:=UInt8.toNat_inj.1 (by omega)
   subst e
   simp[Op.bytesLess,eZ]
theorem tY(b:List UInt8):tK [] b=eZ (decide (0<b.length)) false:=by
 cases b<;>simp[tK,Op.bytesLess,eZ]
theorem l5(a:List UInt8):tK a []=eZ false (decide (0<a.length)):=by
 cases a<;>simp[tK,Op.bytesLess,eZ]
theorem p9(a:ByteArray):a.toList.length=a.size:=by rw[ByteArray.toList_eq];simp
theorem rF(a:ByteArray)(k:Nat):a[k]?=a.toList[k]?:=by
 rw[ByteArray.toList_eq]
 by_cases h:k<a.size
 ·simp[h]
  rfl
 ·simp[h]
theorem vi(a b:List UInt8):∀(k:Nat),k≤a.length→k≤b.length→(∀i,i<k→a[i]?=b[i]?)→tK a b=tK (a.drop k) (b.drop k):=by
 intro k
 induction k with
 |zero=>intros;rfl
 |succ k ih=>
  intro h1 h2 h
  rw[ih (by omega) (by omega) fun i hi=>h i (by omega)]
  have e:=h k (by omega)
  rw[List.getElem?_eq_getElem (by omega),List.getElem?_eq_getElem (by omega)]at e
  rw[List.drop_eq_getElem_cons (show k<a.length by omega),List.drop_eq_getElem_cons (show k<b.length by omega),vh]
  have e:a[k]=b[k]:=by simpa using e
  rw[e]
  simp
theorem vG(a b:ByteArray)(ha:a.size≤9223372036854775807)(H:aa):ag Tryz.prog 40 [sA a,sA b] H (.ok (iA (nK a b))) H:=by
 have hcmp:nK a b=tK a.toList b.toList:=rfl
 have g1:∀k,a[k]?=a.toList[k]?:=rF a
 have g2:∀k,b[k]?=b.toList[k]?:=rF b
 have s1:=p9 a
 have s2:=p9 b
 have c1:∀(x y:UInt8),(((x.toNat:Nat):Int)<((y.toNat:Nat):Int))=(x.toNat<y.toNat):=fun x y=>by simp
 rw[hcmp]
 refine ag.aj (hint:=(fun _=>false)) Tryz.func40 (by kernel_rfl) rfl [4] (by kernel_rfl) (by decide) (by simp[Tryz.ntmps40]) ?_
 rw[Tryz.ntmps40]
 simp -implicitDefEqProofs only[go_sem,Int.reduceNeg]
 refine aP (fun k s H'=>H'=H∧(∀i,i<k→a.toList[i]?=b.toList[i]?)∧s 0=sA a∧s 1=sA b∧s 5=iA k) (min a.size b.size) (by omega) (ay.refl _ _) ?_ ?_ ?_
 ·refine⟨rfl,fun i hi=>by omega,?_⟩
  simp -implicitDefEqProofs only[↓reduceIte,go_sem,Nat.reduceLT,Nat.reduceEqDiff,reduceCtorEq]
 ·rintro k s H' hk hw ⟨rfl,hp,h0,h1,h5⟩
  have k1:k<a.size:=by omega
  have k2:k<b.size:=by omega
  have e1:(k<a.size)=True:=eq_true (by omega)
  have e2:(k<b.size)=True:=eq_true (by omega)
  simp -implicitDefEqProofs only[↓reduceIte,go_sem,Nat.reduceLT,Nat.reduceEqDiff,reduceCtorEq,h0,h1,h5,e1,e2]
  have x1:a[k]?=some a.toList[k]:=by rw[g1];exact List.getElem?_eq_getElem (by omega)
  have x2:b[k]?=some b.toList[k]:=by rw[g2];exact List.getElem?_eq_getElem (by omega)
  have hd:=vi a.toList b.toList k (by omega) (by omega) hp
  rw[List.drop_eq_getElem_cons (show k<a.toList.length by omega),List.drop_eq_getElem_cons (show k<b.toList.length by omega),vh]at hd
  have hp':a.toList[k]=b.toList[k]→∀i,i<k+1→a.toList[i]?=b.toList[i]?:=fun e i hi=>by
   rcases Nat.lt_or_ge i k with h|h
   ·exact hp i h
   ·obtain rfl:i=k:=by omega
    rw[List.getElem?_eq_getElem (by omega),List.getElem?_eq_getElem (by omega),e]
  generalize a.toList[k]=x at x1 hd hp'
  generalize b.toList[k]=y at x2 hd hp'
  refine aO K.mixed (by kernel_rfl) ?_
  simp -implicitDefEqProofs only[↓reduceIte,go_sem,Nat.reduceLT,Nat.reduceEqDiff,Int.reduceNeg,reduceCtorEq,h0,h1,h5,x1,x2,c1]
  by_cases hxy:x.toNat<y.toNat
  ·refine fc (by simp -implicitDefEqProofs only[go_sem,hxy]) ?_
   simp -implicitDefEqProofs only[go_sem,Int.reduceNeg]
   refine aw.aI ?_
   rw[hd,if_pos hxy]
   simp -implicitDefEqProofs only[↓reduceIte,go_sem,Nat.reduceLT,Int.reduceNeg]
  ·refine eQ (by simp -implicitDefEqProofs only[go_sem,hxy]) ?_
   simp -implicitDefEqProofs only[go_sem]
   refine aO K.mixed (by kernel_rfl) ?_
   simp -implicitDefEqProofs only[↓reduceIte,go_sem,Nat.reduceLT,Nat.reduceEqDiff,reduceCtorEq,h0,h1,h5,x1,x2,c1]
   by_cases hyx:y.toNat<x.toNat
   ·refine fc (by simp -implicitDefEqProofs only[go_sem,hyx]) ?_
    simp -implicitDefEqProofs only[go_sem]
    refine aw.aI ?_
    rw[hd,if_neg hxy,if_pos hyx]
    simp -implicitDefEqProofs only[↓reduceIte,go_sem,Nat.reduceLT]
   ·refine eQ (by simp -implicitDefEqProofs only[go_sem,hyx]) ?_
    simp -implicitDefEqProofs only[↓reduceIte,go_sem,Nat.reduceLT,Nat.reduceEqDiff,h5]
    have e:x=y:=UInt8.toNat_inj.1 (by omega)
    refine c9.same ⟨rfl,hp' e,?_⟩
    simp -implicitDefEqProofs only[↓reduceIte,go_sem,Nat.reduceLT,Nat.reduceEqDiff,reduceCtorEq,h0,h1,hw]
 ·rintro s H' ⟨rfl,hp,h0,h1,h5⟩
  have hd:=vi a.toList b.toList (min a.size b.size) (by omega) (by omega) hp
  rcases Nat.lt_or_ge a.size b.size with hlt|hge
  ·have e0:min a.size b.size=a.size:=by omega
   rw[e0]at h5 hd
   have e1:(a.size<a.size)=False:=eq_false (by omega)
   have e2:(a.size<b.size)=True:=eq_true (by omega)
   have e3:(b.size<a.size)=False:=eq_false (by omega)
   simp -implicitDefEqProofs only[↓reduceIte,go_sem,Nat.reduceLT,Nat.reduceEqDiff,reduceCtorEq,h0,h1,h5,e1]
   refine ae.ok (gI _ _ _) ?_
   simp -implicitDefEqProofs only[↓reduceIte,go_sem,Nat.reduceLT]
   refine aw.aI ?_
   rw[hd,List.drop_of_length_le (Nat.le_of_eq s1),tY,List.length_drop]
   simp -implicitDefEqProofs only[↓reduceIte,go_sem,Nat.reduceLT,e2,e3,show(0<b.toList.length-a.size)=True from eq_true (by omega)]
  ·have e0:min a.size b.size=b.size:=by omega
   rw[e0]at h5 hd
   have e1:(b.size<b.size)=False:=eq_false (by omega)
   have e2:(a.size<b.size)=False:=eq_false (by omega)
   by_cases hlt:b.size<a.size
   ·have e3:(b.size<a.size)=True:=eq_true (by omega)
    simp -implicitDefEqProofs only[↓reduceIte,go_sem,Nat.reduceLT,Nat.reduceEqDiff,reduceCtorEq,h0,h1,h5,e1,e3]
    refine ae.ok (gI _ _ _) ?_
    simp -implicitDefEqProofs only[↓reduceIte,go_sem,Nat.reduceLT]
    refine aw.aI ?_
    rw[hd,List.drop_of_length_le (Nat.le_of_eq s2),l5,List.length_drop]
    simp -implicitDefEqProofs only[↓reduceIte,go_sem,Nat.reduceLT,e2,show(0<a.toList.length-b.size)=True from eq_true (by omega)]
   ·have e3:(b.size<a.size)=False:=eq_false (by omega)
    simp -implicitDefEqProofs only[↓reduceIte,go_sem,Nat.reduceLT,Nat.reduceEqDiff,reduceCtorEq,h0,h1,h5,e3]
    refine ae.ok (gI _ _ _) ?_
    simp -implicitDefEqProofs only[↓reduceIte,go_sem,Nat.reduceLT]
    refine aw.aI ?_
    rw[hd,List.drop_of_length_le (Nat.le_of_eq s2),l5,List.length_drop]
    simp -implicitDefEqProofs only[↓reduceIte,go_sem,Nat.reduceLT,e2,show(0<a.toList.length-b.size)=False from eq_false (by omega)]
theorem iF(a b:aq)(ha:a.s.size≤9223372036854775807)(H:aa):ag Tryz.prog 17 [a.av,b.av] H (.ok (iA (aM a b))) H:=by
 unfold aM
 refine ag.aj (hint:=(fun _=>false)) Tryz.func17 (by kernel_rfl) rfl [4] (by kernel_rfl) (by decide) (by simp[Tryz.ntmps17]) ?_
 rw[Tryz.ntmps17]
 simp -implicitDefEqProofs only[↓reduceIte,go_sem,ah,Nat.reduceAdd,Nat.reduceLT,Nat.reduceLeDiff,Nat.reduceEqDiff]
 by_cases h:a.kind=b.kind
 ·refine eQ (by simp -implicitDefEqProofs only[go_sem,h]) ?_
  simp -implicitDefEqProofs only[↓reduceIte,go_sem,ah,Nat.reduceAdd,Nat.reduceLT,Nat.reduceLeDiff,Nat.reduceEqDiff]
  by_cases h1:a.kind=1
  ·refine fc (by simp -implicitDefEqProofs only[go_sem,h1]) ?_
   simp -implicitDefEqProofs only[↓reduceIte,go_sem,ah,Nat.reduceAdd,Nat.reduceLT,Nat.reduceLeDiff,Nat.reduceEqDiff]
   refine ae.ok (gI _ _ _) ?_
   simp -implicitDefEqProofs only[↓reduceIte,go_sem,Nat.reduceLT]
   refine aw.ret ?_
   simp -implicitDefEqProofs only[↓reduceIte,go_sem,Nat.reduceLT,h1,←h,iw]
  ·refine eQ (by simp -implicitDefEqProofs only[go_sem,h1]) ?_
   simp -implicitDefEqProofs only[↓reduceIte,go_sem,Nat.reduceLT,Nat.reduceEqDiff]
   by_cases h2:a.kind=2
   ·refine fc (by simp -implicitDefEqProofs only[go_sem,h2]) ?_
    simp -implicitDefEqProofs only[↓reduceIte,go_sem,ah,Nat.reduceAdd,Nat.reduceLT,Nat.reduceLeDiff,Nat.reduceEqDiff,jE]
    refine ae.ok (zx _ _ (im _) (im _) _) ?_
    simp -implicitDefEqProofs only[↓reduceIte,go_sem,Nat.reduceLT]
    refine aw.ret ?_
    simp -implicitDefEqProofs only[↓reduceIte,go_sem,Nat.reduceLT,Int.reduceEq,h2,←h]
   ·refine eQ (by simp -implicitDefEqProofs only[go_sem,h2]) ?_
    simp -implicitDefEqProofs only[↓reduceIte,go_sem,Nat.reduceLT,Nat.reduceEqDiff]
    by_cases h3:a.kind=3
    ·refine fc (by simp -implicitDefEqProofs only[go_sem,h3]) ?_
     simp -implicitDefEqProofs only[↓reduceIte,go_sem,ah,Nat.reduceAdd,Nat.reduceLT,Nat.reduceEqDiff]
     refine ae.ok (vG _ _ ha _) ?_
     simp -implicitDefEqProofs only[↓reduceIte,go_sem,Nat.reduceLT]
     refine aw.ret ?_
     simp -implicitDefEqProofs only[↓reduceIte,go_sem,Nat.reduceLT,Int.reduceEq,h3,←h]
    ·refine eQ (by simp -implicitDefEqProofs only[go_sem,h3]) ?_
     simp -implicitDefEqProofs only[go_sem]
     refine aw.ret ?_
     simp -implicitDefEqProofs only[↓reduceIte,go_sem,Nat.reduceLT,h1,h2,h3,←h]
 ·refine fc (by simp -implicitDefEqProofs only[go_sem,h]) ?_
  simp -implicitDefEqProofs only[↓reduceIte,go_sem,ah,Nat.reduceAdd,Nat.reduceLT,Nat.reduceLeDiff,Nat.reduceEqDiff]
  refine ae.ok (gI _ _ _) ?_
  simp -implicitDefEqProofs only[↓reduceIte,go_sem,Nat.reduceLT]
  refine aw.ret ?_
  simp -implicitDefEqProofs only[↓reduceIte,go_sem,Nat.reduceLT,h,iw]
def bS(words:List aq)(v:aq):Nat:=words.countP fun w=>decide (aM w v<0)
theorem z6(l:List aq)(x v:aq):bS (l++[x]) v=if aM x v<0 then bS l v+1 else bS l v:=by
 unfold bS
 rw[List.countP_append]
 by_cases h:aM x v<0<;>simp[h]
theorem u6(l:List aq)(v:aq):bS l v≤l.length:=List.countP_le_length
theorem xm(words:List aq)(v:aq)(nn:Bool)(H:aa)(hl:words.length≤1000000000000)(hs:∀k∈words,k.s.size≤9223372036854775807):ag Tryz.prog 175 [.d (.list nn (words.map aq.enc)),v.av] H (.ok (iA (bS words v))) H:=by
 refine ag.aj (hint:=(fun _=>false)) Tryz.func175 (by kernel_rfl) rfl [4] (by kernel_rfl) (by decide) (by simp[Tryz.ntmps175]) ?_
 rw[Tryz.ntmps175]
 simp -implicitDefEqProofs only[↓reduceIte,go_sem,Nat.reduceAdd,Nat.reduceLT]
 refine aP (fun k s H'=>H'=H++[.box 25 3 0 1 [iA v.kind,iA v.i,sA v.s]]∧s 0= .d (.list nn (words.map aq.enc))∧s 3= .ptr H.length 0 0 0∧s 5=iA (bS (words.take k) v)∧s 6=iA k) words.length (by omega) (ay.refl _ _) ?_ ?_ ?_
 ·refine⟨rfl,?_⟩
  simp -implicitDefEqProofs only[↓reduceIte,go_sem,Nat.reduceLT,Nat.reduceEqDiff,reduceCtorEq]
  rfl
 ·rintro k s H' hk hw ⟨rfl,t0,t3,t5,t6⟩
  have hx:=List.getElem?_eq_getElem hk
  have e1:=List.take_succ_eq_append_getElem hk
  have e2:=z6 (words.take k) words[k] v
  rw[←e1]at e2
  have hb:=u6 (words.take k) v
  rw[List.length_take]at hb
  have hxs:=hs _ (List.getElem_mem hk)
  generalize words[k]=x at hx e2 hxs
  obtain⟨n,hn⟩:∃n,n=bS (words.take k) v:=⟨_,rfl⟩
  rw[←hn]at t5 e2 hb
  simp -implicitDefEqProofs only[↓reduceIte,go_sem,Nat.reduceLT,Nat.reduceEqDiff,reduceCtorEq,t0,t6,hk]
  refine aO K.mixed (by kernel_rfl) ?_
  simp -implicitDefEqProofs only[↓reduceIte,go_sem,ah,Nat.reduceAdd,Nat.reduceLT,Nat.reduceEqDiff,reduceCtorEq,t0,t3,t6,hx,aq.enc]
  refine ae.ok (iF x v hxs _) ?_
  have hw2:IntKind.i64.wrap ((n:Int)+1)=(n:Int)+1:=wrap64_in _ (by omega) (by omega)
  by_cases hc:aM x v<0
  ·rw[if_pos hc]at e2
   simp -implicitDefEqProofs only[↓reduceIte,go_sem,Nat.reduceLT,Nat.reduceEqDiff,hc,t5,hw2,t6]
   refine c9.same ⟨rfl,?_⟩
   simp -implicitDefEqProofs only[↓reduceIte,go_sem,Nat.reduceLT,Nat.reduceEqDiff,reduceCtorEq,t0,t3,hw,e2]
  ·rw[if_neg hc]at e2
   simp -implicitDefEqProofs only[↓reduceIte,go_sem,Nat.reduceLT,Nat.reduceEqDiff,hc,t6]
   refine c9.same ⟨rfl,?_⟩
   simp -implicitDefEqProofs only[↓reduceIte,go_sem,Nat.reduceLT,Nat.reduceEqDiff,reduceCtorEq,t0,t3,t5,hw,e2]
 ·rintro s H' ⟨rfl,t0,t3,t5,t6⟩
  rw[List.take_length]at t5
  simp -implicitDefEqProofs only[↓reduceIte,go_sem,Nat.reduceLT,Nat.reduceEqDiff,reduceCtorEq,t0,t5,t6]
  refine aw.ret ?_
  simp -implicitDefEqProofs only[↓reduceIte,go_sem,Nat.reduceLT]
def cq(words:List aq)(v:aq):Int:=qZ (fun w=>decide (aM w v=0)) words
theorem rI(words:List aq)(v:aq):-1≤cq words v∧cq words v<words.length∨words=[]∧cq words v=-1:=by
 unfold cq qZ
 split
 ·rename_i h
  obtain⟨x,hx,hp⟩:=List.any_eq_true.1 h
  have:words.findIdx (fun w=>decide (aM w v=0))<words.length:=List.findIdx_lt_length_of_exists ⟨x,hx,hp⟩
  left;omega
 ·cases words with
  |nil=>exact .inr ⟨rfl,rfl⟩
  |cons a l=>left;simp;omega
def gd(words l:List aq):Bool:=l.all fun v=>decide (0≤cq words v)
def wC(words l:List aq):List Nat:=if gd words l then l.map fun v=>(cq words v).toNat else[]
def xx(words l:List aq):Int:=if gd words l then 0 else 6
def pC(words l:List aq):AV:= .bz [.d (.list false (us (wC words l))),iA (xx words l)]
theorem uX{words l:List aq}{k:Nat}(hk:k<l.length)(h:cq words l[k]<0):gd words l=false:=by
 rw[Bool.eq_false_iff]
 intro g
 unfold gd at g
 rw[List.all_eq_true]at g
 have:=g _ (List.getElem_mem hk)
 simp at this
 omega
theorem rJ{words l:List aq}(h:∀i (hi:i<l.length),0≤cq words l[i]):gd words l=true:=by
 unfold gd
 rw[List.all_eq_true]
 intro v hv
 obtain⟨i,hi,rfl⟩:=List.mem_iff_getElem.1 hv
 simpa using h i hi
def A7(v:aq):aT:= .box 25 3 0 1 [iA v.kind,iA v.i,sA v.s]
theorem y8(w v:aq)(id:Nat)(H:aa)(hb:H[id]?=some (A7 v)):ag Tryz.prog 155 [w.av,.ptr id 0 0 0] H (.ok (bA (decide (aM w v=0)))) H:=by
 have hlt:id<H.length:=(List.getElem?_eq_some_iff.1 hb).1
 unfold A7 at hb
 refine ag.aj (hint:=(fun _=>false)) Tryz.func155 (by kernel_rfl) rfl [3] (by kernel_rfl) (by decide) (by simp[Tryz.ntmps155]) ?_
 rw[Tryz.ntmps155]
 simp -implicitDefEqProofs only[↓reduceIte,go_sem,ah,Nat.reduceAdd,Nat.reduceLT,Nat.reduceEqDiff,hb,List.getElem?_append_left hlt]
 refine ae.ok (eW w v _) ?_
 simp -implicitDefEqProofs only[↓reduceIte,go_sem,Nat.reduceLT]
 refine aw.ret ?_
 simp -implicitDefEqProofs only[↓reduceIte,go_sem,Nat.reduceLT]
theorem za(words l:List aq)(n1 n2:Bool)(H:aa)(hw:words.length≤1000000000000)(hl:l.length≤1000000000000):ag Tryz.prog 120 [.d (.list n1 (words.map aq.enc)),.d (.list n2 (l.map aq.enc))] H
  (.ok (if gd words l then .bz [.d (.list false (us (l.map fun v=>(cq words v).toNat))),iA 0]else .bz [.d (.v (.slice none 0 0)),iA 6])) H:=by
 refine ag.aj (hint:=(fun _=>false)) Tryz.func120 (by kernel_rfl) rfl [4,5] (by kernel_rfl) (by decide) (by simp[Tryz.ntmps120]) ?_
 rw[Tryz.ntmps120]
 simp -implicitDefEqProofs only[↓reduceIte,go_sem,Nat.reduceLT,Nat.reduceEqDiff]
 refine bW (fun k s H'=>H'=H++[.arr 49 1 k (us ((l.take k).map fun v=>(cq words v).toNat))]∧(∀i (hi:i<k) (hl:i<l.length),0≤cq words l[i])∧s 0= .d (.list n1 (words.map aq.enc))∧s 6= .sl H.length k 0 k∧s 10= .d (.list n2 (l.map aq.enc))∧s 11=iA l.length∧s 12=iA k) l.length (by omega) (ay.db _ _ 6 49 1 (by decide) (by simp -implicitDefEqProofs only[↓reduceIte,go_sem,Nat.reduceLT,Nat.reduceEqDiff]) _) ?_ ?_ ?_
 ·refine⟨rfl,fun i hi=>by omega,?_⟩
  simp -implicitDefEqProofs only[↓reduceIte,go_sem,Nat.reduceLT,Nat.reduceEqDiff,reduceCtorEq]
 ·rintro k s H' hk hw' ⟨rfl,hp,t0,t6,t10,t11,t12⟩
  have hx:=List.getElem?_eq_getElem hk
  have e1:(l.take (k+1)).map (fun v=>(cq words v).toNat)=(l.take k).map (fun v=>(cq words v).toNat)++[(cq words l[k]).toNat]:=by rw[List.take_succ_eq_append_getElem hk,List.map_append];rfl
  have hbad:=uX (words:=words) hk
  have hrng:=rI words l[k]
  have hpp:0≤cq words l[k]→∀i (hi:i<k+1) (hl:i<l.length),0≤cq words l[i]:=fun h0 i hi hl'=>by
   rcases Nat.lt_or_ge i k with h|h
   ·exact hp i h hl'
   ·obtain rfl:i=k:=by omega
    exact h0
  have hlen:((l.take k).map fun v=>(cq words v).toNat).length=k:=by simp;omega
  generalize l[k]=x at hx e1 hbad hrng hpp
  generalize (l.take k).map (fun v=>(cq words v).toNat)=L at e1 hlen⊢
  simp -implicitDefEqProofs only[↓reduceIte,go_sem,au,Nat.reduceAdd,Nat.reduceLT,Nat.reduceEqDiff,reduceCtorEq,t10,t11,t12,hk,hx,aq.enc]
  simp -implicitDefEqProofs only[go_sem,t0]
  refine ae.ok (qF words (fun w=>decide (aM w x=0)) 155 [.ptr (H.length+1) 0 0 0] n1 _ (by omega) fun w _=>y8 w x _ _ (by simp[A7])) ?_
  have hpl:qZ (fun w=>decide (aM w x=0)) words=cq words x:=rfl
  rw[hpl]
  generalize hq:cq words x=q at*
  by_cases hq0:q<0
  ·simp -implicitDefEqProofs only[↓reduceIte,go_sem,Nat.reduceLT,hq0]
   refine aw.ret ?_
   rw[hbad hq0]
   simp -implicitDefEqProofs only[↓reduceIte,go_sem,Nat.reduceLT,Nat.reduceEqDiff,Bool.false_eq_true]
  ·obtain⟨n,rfl⟩:∃n:Nat,q=(n:Int):=⟨q.toNat,by omega⟩
   have hnw:n<1000000000000:=by omega
   have hu:IntKind.u64.wrap (n:Int)=(n:Int):=cg _ (by omega) (by omega)
   simp -implicitDefEqProofs only[↓reduceIte,go_sem,Nat.reduceAdd,Nat.reduceLT,Nat.reduceLeDiff,Nat.reduceEqDiff,t6,t12,hq0,hu,cT,hlen,mD]
   refine⟨by omega,by omega,?_⟩
   refine c9.cut [.arr 49 1 (k+1) (us (L++[n]))] [A7 x] 1 rfl rfl (by simp -implicitDefEqProofs only[go_sem]) ?_
   refine⟨by rw[e1];simp,hpp (by omega),?_⟩
   simp -implicitDefEqProofs only[↓reduceIte,go_sem,Nat.reduceLT,Nat.reduceEqDiff,reduceCtorEq,t0,t10,t11,hw',Nat.lt_succ_self]
 ·rintro s H' ⟨rfl,hp,t0,t6,t10,t11,t12⟩
  have hg:=rJ (words:=words) fun i hi=>hp i hi hi
  rw[List.take_length,hg]
  simp -implicitDefEqProofs only[↓reduceIte,go_sem,Nat.reduceLT,Nat.reduceEqDiff,t6,t11,t12]
  refine aw.ret ?_
  simp -implicitDefEqProofs only[↓reduceIte,go_sem,Nat.reduceLT,Nat.reduceEqDiff,bQ,cT]
theorem B3(words l:List aq)(n1 n2:Bool)(H:aa)(hw:words.length≤1000000000000)(hl:l.length≤1000000000000):ag Tryz.prog 120 [.d (.list n1 (words.map aq.enc)),.d (.list n2 (l.map aq.enc))] H (.ok (pC words l)) H:=by
 have h:=za words l n1 n2 H hw hl
 unfold pC wC xx
 cases hc:gd words l with
 |true=>rw[hc]at h;simpa using h
 |false=>
  rw[hc]at h
  simp only[Bool.false_eq_true,if_false]at h⊢
  exact h.bE (.cons .nil (.cons (.refl _) .nil))
theorem A0(words:List aq)(v:aq)(nn:Bool)(H:aa)(hl:words.length≤1000000000000)(hs:∀k∈words,k.s.size≤9223372036854775807):ag Tryz.prog 176 [.d (.list nn (words.map aq.enc)),v.av] H (.ok (iA (cq words v))) H:=by
 refine ag.aj (hint:=(fun _=>false)) Tryz.func176 (by kernel_rfl) rfl [4] (by kernel_rfl) (by decide) (by simp[Tryz.ntmps176]) ?_
 rw[Tryz.ntmps176]
 simp -implicitDefEqProofs only[↓reduceIte,go_sem,Nat.reduceAdd,Nat.reduceLT,Int.reduceNeg]
 refine aP (fun k s H'=>H'=H++[A7 v]∧(∀i (hi:i<k) (hl:i<words.length),(fun w=>decide (aM w v=0)) words[i]=false)∧s 0= .d (.list nn (words.map aq.enc))∧s 3= .ptr H.length 0 0 0∧s 5=iA k) words.length (by omega) (ay.refl _ _) ?_ ?_ ?_
 ·refine⟨rfl,fun i hi=>by omega,?_⟩
  simp -implicitDefEqProofs only[↓reduceIte,go_sem,Nat.reduceLT,Nat.reduceEqDiff,reduceCtorEq]
 ·rintro k s H' hk hw ⟨rfl,hp,t0,t3,t5⟩
  have hx:=List.getElem?_eq_getElem hk
  have hhit:=fun h=>xR (p:=fun w=>decide (aM w v=0)) hp hk h
  have hxs:=hs _ (List.getElem_mem hk)
  have hpp:(fun w=>decide (aM w v=0)) words[k]=false→∀i (hi:i<k+1) (hl:i<words.length),(fun w=>decide (aM w v=0)) words[i]=false:=fun h0 i hi hl'=>by
   rcases Nat.lt_or_ge i k with h|h
   ·exact hp i h hl'
   ·obtain rfl:i=k:=by omega
    exact h0
  generalize words[k]=x at hx hhit hxs hpp
  simp -implicitDefEqProofs only[↓reduceIte,go_sem,Nat.reduceLT,Nat.reduceEqDiff,reduceCtorEq,t0,t5,hk]
  refine aO K.mixed (by kernel_rfl) ?_
  simp -implicitDefEqProofs only[↓reduceIte,go_sem,ah,Nat.reduceAdd,Nat.reduceLT,Nat.reduceEqDiff,Int.reduceNeg,reduceCtorEq,t0,t3,t5,hx,aq.enc,A7]
  refine ae.ok (iF x v hxs _) ?_
  by_cases hc:aM x v=0
  ·simp -implicitDefEqProofs only[↓reduceIte,go_sem,Nat.reduceLT,Nat.reduceEqDiff,hc,t5]
   refine aw.ret ?_
   have:cq words v=k:=hhit (by simp[hc])
   simp -implicitDefEqProofs only[↓reduceIte,go_sem,Nat.reduceLT,this]
  ·simp -implicitDefEqProofs only[↓reduceIte,go_sem,Nat.reduceLT,Nat.reduceEqDiff,hc,t5]
   refine c9.same ⟨rfl,hpp (by simp[hc]),?_⟩
   simp -implicitDefEqProofs only[↓reduceIte,go_sem,Nat.reduceLT,Nat.reduceEqDiff,reduceCtorEq,t0,t3,hw]
 ·rintro s H' ⟨rfl,hp,t0,t3,t5⟩
  simp -implicitDefEqProofs only[↓reduceIte,go_sem,Nat.reduceLT,Nat.reduceEqDiff,Int.reduceNeg,reduceCtorEq,t0,t5]
  refine aw.ret ?_
  have:cq words v=-1:=uS (p:=fun w=>decide (aM w v=0)) fun i hi=>hp i hi hi
  simp -implicitDefEqProofs only[↓reduceIte,go_sem,Nat.reduceLT,Int.reduceNeg,this]
theorem tW(words l:List aq)(n1 n2:Bool)(H:aa)(hw:words.length≤1000000000000)(hl:l.length≤1000000000000)(hs:∀k∈words,k.s.size≤9223372036854775807):ag Tryz.prog 167 [.d (.list n1 (words.map aq.enc)),.d (.list n2 (l.map aq.enc))] H
  (.ok (if gd words l then .bz [.d (.list false (us (l.map fun v=>(cq words v).toNat))),iA 0]else .bz [.d (.v (.slice none 0 0)),iA 6])) H:=by
 refine ag.aj (hint:=(fun _=>false)) Tryz.func167 (by kernel_rfl) rfl [4,5] (by kernel_rfl) (by decide) (by simp[Tryz.ntmps167]) ?_
 rw[Tryz.ntmps167]
 simp -implicitDefEqProofs only[go_sem]
 refine aP (fun k s H'=>H'=H++[.arr 49 1 k (us ((l.take k).map fun v=>(cq words v).toNat))]∧(∀i (hi:i<k) (hl:i<l.length),0≤cq words l[i])∧s 0= .d (.list n1 (words.map aq.enc))∧s 1= .d (.list n2 (l.map aq.enc))∧s 6= .sl H.length k 0 k∧s 7=iA k) l.length (by omega) (ay.db _ _ 6 49 1 (by decide) (by simp -implicitDefEqProofs only[↓reduceIte,go_sem,Nat.reduceLT,Nat.reduceEqDiff]) _) ?_ ?_ ?_
 ·refine⟨rfl,fun i hi=>by omega,?_⟩
  simp -implicitDefEqProofs only[↓reduceIte,go_sem,Nat.reduceLT,Nat.reduceEqDiff,reduceCtorEq]
 ·rintro k s H' hk hw' ⟨rfl,hp,t0,t1,t6,t7⟩
  have hx:=List.getElem?_eq_getElem hk
  have e1:(l.take (k+1)).map (fun v=>(cq words v).toNat)=(l.take k).map (fun v=>(cq words v).toNat)++[(cq words l[k]).toNat]:=by rw[List.take_succ_eq_append_getElem hk,List.map_append];rfl
  have hbad:=uX (words:=words) hk
  have hrng:=rI words l[k]
  have hpp:0≤cq words l[k]→∀i (hi:i<k+1) (hl:i<l.length),0≤cq words l[i]:=fun h0 i hi hl'=>by
   rcases Nat.lt_or_ge i k with h|h
   ·exact hp i h hl'
   ·obtain rfl:i=k:=by omega
    exact h0
  have hlen:((l.take k).map fun v=>(cq words v).toNat).length=k:=by simp;omega
  generalize l[k]=x at hx e1 hbad hrng hpp
  generalize (l.take k).map (fun v=>(cq words v).toNat)=L at e1 hlen⊢
  simp -implicitDefEqProofs only[↓reduceIte,go_sem,Nat.reduceAdd,Nat.reduceLT,Nat.reduceEqDiff,reduceCtorEq,t0,t1,t7,hk,hx,aq.enc]
  refine ae.ok (A0 words x n1 _ hw hs) ?_
  generalize hq:cq words x=q at*
  by_cases hq0:q<0
  ·simp -implicitDefEqProofs only[↓reduceIte,go_sem,Nat.reduceLT,hq0]
   refine aw.ret ?_
   rw[hbad hq0]
   simp -implicitDefEqProofs only[↓reduceIte,go_sem,Nat.reduceLT,Nat.reduceEqDiff,Bool.false_eq_true]
  ·obtain⟨n,rfl⟩:∃n:Nat,q=(n:Int):=⟨q.toNat,by omega⟩
   have hu:IntKind.u64.wrap (n:Int)=(n:Int):=cg _ (by omega) (by omega)
   simp -implicitDefEqProofs only[↓reduceIte,go_sem,Nat.reduceLT,Nat.reduceLeDiff,Nat.reduceEqDiff,t6,t7,hq0,hu,cT,hlen,mD]
   refine⟨by omega,by omega,c9.same ⟨by rw[e1];simp,hpp (by omega),?_⟩⟩
   simp -implicitDefEqProofs only[↓reduceIte,go_sem,Nat.reduceLT,Nat.reduceEqDiff,reduceCtorEq,t0,t1,hw']
 ·rintro s H' ⟨rfl,hp,t0,t1,t6,t7⟩
  have hg:=rJ (words:=words) fun i hi=>hp i hi hi
  rw[List.take_length,hg]
  simp -implicitDefEqProofs only[↓reduceIte,go_sem,Nat.reduceLT,Nat.reduceEqDiff,t1,t6,t7]
  refine aw.ret ?_
  simp -implicitDefEqProofs only[↓reduceIte,go_sem,Nat.reduceLT,Nat.reduceEqDiff,bQ,cT]
theorem wG(words l:List aq)(n1 n2:Bool)(H:aa)(hw:words.length≤1000000000000)(hl:l.length≤1000000000000)(hs:∀k∈words,k.s.size≤9223372036854775807):ag Tryz.prog 167 [.d (.list n1 (words.map aq.enc)),.d (.list n2 (l.map aq.enc))] H (.ok (pC words l)) H:=by
 have h:=tW words l n1 n2 H hw hl hs
 unfold pC wC xx
 cases hc:gd words l with
 |true=>rw[hc]at h;simpa using h
 |false=>
  rw[hc]at h
  simp only[Bool.false_eq_true,if_false]at h⊢
  exact h.bE (.cons .nil (.cons (.refl _) .nil))
end Go.Proofs.YtmbagpfmfiegkaaGreat
namespace Go.Proofs.YtmbagpfmfiegkaaGreat
open Go.Proofs.YtmbagpfmfiegkaaGreatAw Go.RowKit
namespace SV
theorem Nl(l:List aq):(∀c∈l.map aq.enc,c.length=3)=True:=eq_true fun c hc=>by obtain⟨a,_,rfl⟩:=List.mem_map.1 hc;rfl
theorem Ki(K:Value→Prop):dE Tryz.prog .eql 42 (.slice none 0 0) (.slice none 0 0) K=K (.bool true):=Eb (e:=25) (by kernel_rfl) K
theorem tL(H:aa):ag Tryz.prog 151 [.d (.v (.slice none 0 0))] H (.ok (.d (.v (.slice none 0 0)))) H:=by
 refine ag.aj (hint:=(fun _=>false)) Tryz.func151 (by kernel_rfl) rfl [2] (by kernel_rfl) (by decide) (by simp[Tryz.ntmps151]) ?_
 rw[Tryz.ntmps151]
 simp -implicitDefEqProofs only[↓reduceIte,go_sem,Nat.reduceLT,reduceCtorEq,Ki]
 refine aw.aI ?_
 simp -implicitDefEqProofs only[↓reduceIte,go_sem,Nat.reduceLT]
theorem lZ(l:List aq)(nn:Bool)(H:aa)(h0:nn=true∨l≠[])(hl:l.length≤1000000000000):ag Tryz.prog 151 [.d (.list nn (l.map aq.enc))] H (.ok (.sl H.length 1 0 l.length)) (H++[.arr 25 3 1 (l.map aq.enc)]):=by
 have e1:(nn|| !(l.map aq.enc).isEmpty)=true:=by
  rcases h0 with h|h
  ·simp[h]
  ·cases l with
   |nil=>exact absurd rfl h
   |cons a l=>simp
 refine ag.aj (hint:=(fun _=>false)) Tryz.func151 (by kernel_rfl) rfl [2] (by kernel_rfl) (by decide) (by simp[Tryz.ntmps151]) ?_
 rw[Tryz.ntmps151]
 simp -implicitDefEqProofs only[↓reduceIte,go_sem,Nat.reduceAdd,Nat.reduceLT,Nat.reduceEqDiff,reduceCtorEq,e1,Nl]
 refine⟨by omega,by omega,_,ay.refl _ _,?_⟩
 simp -implicitDefEqProofs only[↓reduceIte,go_sem,Nat.reduceLT]
theorem CL(l:List aq)(nn:Bool)(H:aa)(hl:l.length≤1000000000000):ag Tryz.prog 151 [.d (.list nn (l.map aq.enc))] H (.ok (.sl H.length 1 0 l.length)) (H++[.arr 25 3 1 (l.map aq.enc)]):=by
 cases nn with
 |true=>exact lZ l true H (.inl rfl) hl
 |false=>
  cases l with
  |cons a l=>exact lZ _ false H (.inr (by simp)) hl
  |nil=>
   refine ag.Gu [] [] ?_ (lZ [] true H (.inl rfl) (by simp))
   have:=(tL H).Ko (ay.Ia (AN _) H 0 25 3 1 (by decide) rfl)
   simpa[AN]using this
end SV
end Go.Proofs.YtmbagpfmfiegkaaGreat
namespace Go.Proofs.YtmbagpfmfiegkaaGreat
open Go.Proofs.YtmbagpfmfiegkaaGreatAw Go.RowKit
namespace SV
def aH(H:aa)(id ver:Nat)(L:List aq):aa:=H.set id (.arr 25 3 ver (L.map aq.enc))
theorem jy{H:aa}{id:Nat}(h:id<H.length)(ver:Nat)(L:List aq):(aH H id ver L)[id]?=some (.arr 25 3 ver (L.map aq.enc)):=by simp[aH,h]
theorem pN(H:aa)(id ver:Nat)(L:List aq)(v:Nat)(es:List (List D)):(aH H id ver L).set id (.arr 25 3 v es)=H.set id (.arr 25 3 v es):=by simp[aH]
theorem oY(H:aa)(id ver:Nat)(L:List aq):H.set id (.arr 25 3 ver (L.map aq.enc))=aH H id ver L:=rfl
theorem dg{L:List aq}{i:Nat}{x:aq}(h:L[i]?=some x):(L.map aq.enc)[i]?=some (aq.enc x):=by simp[h]
theorem jc(L:List aq)(i:Nat)(x:aq):(L.map aq.enc).set i (aq.enc x)=(L.set i x).map aq.enc:=by simp[List.map_set]
theorem get_at{A B:List aq}{x:aq}{n:Nat}(h:A.length=n):(A++x::B)[n]?=some x:=by subst h;simp
theorem jq{A B:List aq}{x y:aq}{n:Nat}(h:A.length=n):(A++x::B).set n y=A++y::B:=by subst h;simp
def F2(P X M Y Q:List aq)(k:Nat):List aq:=P++Y.take k++(X.drop k++M++X.take k++(Y.drop k++Q))
theorem GF(P X M Y Q:List aq):F2 P X M Y Q 0=P++X++M++Y++Q:=by simp[F2]
theorem Jg(P X M Y Q:List aq)(n:Nat)(h1:X.length=n)(h2:Y.length=n):F2 P X M Y Q n=P++Y++M++X++Q:=by
 unfold F2
 rw[List.take_of_length_le (by omega),List.drop_of_length_le (by omega),List.take_of_length_le (by omega),List.drop_of_length_le (by omega)]
 simp
theorem GY(P X M Y Q:List aq)(k:Nat)(hk:k<X.length)(h:X.length=Y.length):∃x y,(F2 P X M Y Q k)[P.length+k]?=some x∧(F2 P X M Y Q k)[P.length+X.length+M.length+k]?=some y∧
  ((F2 P X M Y Q k).set (P.length+k) y).set (P.length+X.length+M.length+k) x=F2 P X M Y Q (k+1):=by
 have hk2:k<Y.length:=by omega
 have e1:X.drop k=X[k]::X.drop (k+1):=List.drop_eq_getElem_cons hk
 have e2:Y.drop k=Y[k]::Y.drop (k+1):=List.drop_eq_getElem_cons hk2
 have e3:X.take (k+1)=X.take k++[X[k]]:=List.take_succ_eq_append_getElem hk
 have e4:Y.take (k+1)=Y.take k++[Y[k]]:=List.take_succ_eq_append_getElem hk2
 have l1:(P++Y.take k).length=P.length+k:=by simp;omega
 have l2:(X.drop (k+1)).length=X.length-(k+1):=by simp
 have l3:(X.take k).length=k:=by simp;omega
 unfold F2
 rw[e1,e2,e3,e4]
 generalize X[k]=x
 generalize Y[k]=y
 generalize X.drop (k+1)=X1 at*
 generalize Y.drop (k+1)=Y1 at*
 generalize X.take k=X0 at*
 generalize Y.take k=Y0 at*
 have a1:P++Y0++(x::X1++M++X0++(y::Y1++Q))=(P++Y0)++x::(X1++M++X0++(y::Y1++Q)):=by simp
 have a2:P++Y0++(x::X1++M++X0++(y::Y1++Q))=(P++Y0++x::X1++M++X0)++y::(Y1++Q):=by simp
 have a3:(P++Y0)++y::(X1++M++X0++(y::Y1++Q))=(P++Y0++y::X1++M++X0)++y::(Y1++Q):=by simp
 refine⟨x,y,?_,?_,?_⟩
 ·rw[a1];exact get_at l1
 ·rw[a2]
  refine get_at ?_
  simp only[List.length_append,List.length_cons,l2,l3]at*
  omega
 ·rw[a1,jq l1,a3,jq (by simp only[List.length_append,List.length_cons,l2,l3]at*;omega)]
  simp
theorem tn(H:aa)(id ver:Nat)(hid:id<H.length)(g:FuncId)(caps:List AV)(P X M Y Q:List aq)(a b n m:Nat)(ha:P.length=a)(hn:X.length=n)(hy:Y.length=n)(hb:P.length+X.length+M.length=b)
  (hm:(P++X++M++Y++Q).length=m) (hbig:m≤1000000000000):
  ag Tryz.prog 182 [.sl id ver 0 m,iA a,iA b,iA n,.fn g caps] (aH H id ver (P++X++M++Y++Q)) (.ok (.bz [])) (aH H id ver (P++Y++M++X++Q)):=by
 have hml:P.length+X.length+M.length+Y.length+Q.length=m:=by rw[←hm];simp;omega
 generalize hE:aH H id ver (P++Y++M++X++Q)=E
 generalize hE0:aH H id ver (P++X++M++Y++Q)=E0
 refine ag.aj (hint:=(fun _=>false)) Tryz.func182 (by kernel_rfl) rfl [] (by kernel_rfl) (by decide) (by simp[Tryz.ntmps182]) ?_
 rw[Tryz.ntmps182]
 simp -implicitDefEqProofs only[go_sem]
 refine aP (fun k s H'=>H'=aH H id ver (F2 P X M Y Q k)∧s 0= .sl id ver 0 m∧s 1=iA a∧s 2=iA b∧s 3=iA n∧s 10=iA k) n (by omega) (ay.refl _ _) ?_ ?_ ?_
 ·refine⟨by rw[GF,hE0],?_⟩
  simp -implicitDefEqProofs only[↓reduceIte,go_sem,Nat.reduceLT,Nat.reduceEqDiff,reduceCtorEq]
 ·rintro k s H' hk hw ⟨rfl,t0,t1,t2,t3,t10⟩
  obtain⟨x,y,hx,hy2,hst⟩:=GY P X M Y Q k (by omega) (by omega)
  rw[hb]at hy2 hst
  rw[ha]at hx hst
  obtain⟨i,hi⟩:∃i,i=a+k:=⟨_,rfl⟩
  obtain⟨j,hj⟩:∃j,j=b+k:=⟨_,rfl⟩
  have w1:IntKind.i64.wrap ((a:Int)+(k:Int))=(i:Int):=by rw[wrap64_in _ (by omega) (by omega)];omega
  have w2:IntKind.i64.wrap ((b:Int)+(k:Int))=(j:Int):=by rw[wrap64_in _ (by omega) (by omega)];omega
  rw[←hi]at hx hst
  rw[←hj]at hy2 hst
  have hil:i<m:=by omega
  have hjl:j<m:=by omega
  generalize F2 P X M Y Q k=L at*
  generalize F2 P X M Y Q (k+1)=L' at*
  have gx:=dg hx
  have gy:=dg hy2
  have gh:=jy hid ver L
  have s1:=jc L i y
  have s2:=jc (L.set i y) j x
  rw[hst]at s2
  have gy2:((L.set i y).map aq.enc)[j]?=some (aq.enc y):=by
   refine dg ?_
   rw[List.getElem?_set]
   by_cases hij:i=j
   ·omega
   ·rw[if_neg hij];exact hy2
  simp only[aq.enc]at gx gy gy2 s1 s2
  simp -implicitDefEqProofs only[↓reduceIte,go_sem,Nat.reduceLT,Nat.reduceEqDiff,t3,t10,hk]
  refine kx [false,false,false,false,false,false,false,false,false,false,false,false,false,false,false,false,false,false,false,false,true,true,true,true] 20 K.mixed (by kernel_rfl) (by kernel_rfl) (by kernel_rfl) ?_
  simp -implicitDefEqProofs only[↓reduceIte,go_sem,ah,au,Nat.reduceAdd,Nat.reduceLT,Nat.reduceEqDiff,reduceCtorEq,t0,t1,t2,t10,w1,w2,hil,hjl,gh,gx,gy,pN,s1,s2,gy2,hid,List.getElem?_set_self,List.set_set]
  refine c9.same ⟨by rw[←oY],?_⟩
  simp -implicitDefEqProofs only[↓reduceIte,go_sem,Nat.reduceLT,Nat.reduceEqDiff,reduceCtorEq,t0,t1,t2,t3,hw]
 ·rintro s H' ⟨rfl,t0,t1,t2,t3,t10⟩
  simp -implicitDefEqProofs only[↓reduceIte,go_sem,Nat.reduceLT,Nat.reduceEqDiff,t3,t10]
  rw[Jg _ _ _ _ _ n hn hy,hE]
  exact⟨_,ay.refl _ _,rfl⟩
theorem kX(H:aa)(id ver:Nat)(hid:id<H.length)(g:FuncId)(caps:List AV)(P X M Y Q L L':List aq)(a b n m:Nat)(hL:L=P++X++M++Y++Q)(hL':L'=P++Y++M++X++Q)(ha:P.length=a)(hn:X.length=n)(hy:Y.length=n)(hb:P.length+X.length+M.length=b)
  (hm:L.length=m) (hbig:m≤1000000000000):
  ag Tryz.prog 182 [.sl id ver 0 m,iA a,iA b,iA n,.fn g caps] (aH H id ver L) (.ok (.bz [])) (aH H id ver L'):=by
 subst hL hL'
 exact tn H id ver hid g caps P X M Y Q a b n m ha hn hy hb hm hbig
end SV
end Go.Proofs.YtmbagpfmfiegkaaGreat
namespace Go.Proofs.YtmbagpfmfiegkaaGreat
open Go.Proofs.YtmbagpfmfiegkaaGreatAw Go.RowKit
namespace SV
structure Nn where
 L:List aq
 P:List aq
 U:List aq
 V:List aq
 Q:List aq
theorem xZ(H:aa)(id ver:Nat)(hid:id<H.length)(g:FuncId)(caps:List AV)(P U V Q L T:List aq)(hL:L=P++U++V++Q)(hT:T=P++V++U++Q)(a m b n:Nat)(ha:P.length=a)(hm:P.length+U.length=m)(hb:P.length+U.length+V.length=b)(hU:0<U.length)(hV:0<V.length)
  (hn:L.length=n) (hbig:n≤1000000000000):
  ag Tryz.prog 181 [.sl id ver 0 n,iA a,iA m,iA b,.fn g caps] (aH H id ver L) (.ok (.bz [])) (aH H id ver T):=by
 have hnl:P.length+U.length+V.length+Q.length=n:=by rw[←hn,hL];simp;omega
 generalize hE0:aH H id ver L=E0
 have w1:IntKind.i64.wrap ((m:Int)-(a:Int))=((U.length:Nat):Int):=by rw[wrap64_in _ (by omega) (by omega)];omega
 have w2:IntKind.i64.wrap ((b:Int)-(m:Int))=((V.length:Nat):Int):=by rw[wrap64_in _ (by omega) (by omega)];omega
 refine ag.aj (hint:=(fun _=>false)) Tryz.func181 (by kernel_rfl) rfl [] (by kernel_rfl) (by decide) (by simp[Tryz.ntmps181]) ?_
 rw[Tryz.ntmps181]
 simp -implicitDefEqProofs only[↓reduceIte,go_sem,Nat.reduceLT,Nat.reduceEqDiff,w1,w2]
 refine cl _ _ _ _ (fun(x:Nn) s H'=>H'=aH H id ver x.L∧x.L=x.P++x.U++x.V++x.Q∧T=x.P++x.V++x.U++x.Q∧x.P.length+x.U.length=m∧0<x.U.length∧0<x.V.length∧x.L.length=n∧
   s 0= .sl id ver 0 n∧s 2=iA m∧s 4= .fn g caps∧s 10=iA x.U.length∧s 11=iA x.V.length) (fun x=>x.U.length+x.V.length) ⟨L,P,U,V,Q⟩ (ay.refl _ _) ?_ ?_
 ·refine⟨hE0.symm,hL,hT,hm,hU,hV,hn,?_⟩
  simp -implicitDefEqProofs only[↓reduceIte,go_sem,Nat.reduceLT,Nat.reduceEqDiff,reduceCtorEq]
 ·rintro⟨L',P',U',V',Q'⟩ s H' ⟨rfl,hL',hT',hm',hU',hV',hn',t0,t2,t4,t10,t11⟩
  simp only at hL' hT' hm' hU' hV' hn' t0 t2 t4 t10 t11
  have hnl':P'.length+U'.length+V'.length+Q'.length=n:=by rw[←hn',hL'];simp;omega
  have w3:IntKind.i64.wrap ((m:Int)-(U'.length:Int))=((P'.length:Nat):Int):=by rw[wrap64_in _ (by omega) (by omega)];omega
  by_cases hij:U'.length=V'.length
  ·have hij':(((U'.length:Nat):Int) !=((V'.length:Nat):Int))=false:=by simp[hij]
   simp -implicitDefEqProofs only[↓reduceIte,go_sem,Nat.reduceLT,Nat.reduceEqDiff,reduceCtorEq,t10,t11,hij']
   simp -implicitDefEqProofs only[↓reduceIte,go_sem,Nat.reduceLT,Nat.reduceEqDiff,t0,t2,t4,t10,w3]
   refine ae.ok (kX H id ver hid g caps P' U' [] V' Q' L' T P'.length m U'.length n (by rw[hL'];simp) (by rw[hT'];simp) rfl rfl (by omega) (by simp;omega) hn' hbig) ?_
   simp -implicitDefEqProofs only[go_sem]
   exact⟨_,ay.refl _ _,rfl⟩
  ·have hij':(((U'.length:Nat):Int) !=((V'.length:Nat):Int))=true:=by simp;omega
   by_cases hgt:V'.length<U'.length
   ·have hgt':(((V'.length:Nat):Int)<((U'.length:Nat):Int))=True:=eq_true (by omega)
    have e1:U'.take V'.length++U'.drop V'.length=U':=List.take_append_drop _ _
    have l1:(U'.take V'.length).length=V'.length:=by simp;omega
    have l2:(U'.drop V'.length).length=U'.length-V'.length:=by simp
    generalize U'.take V'.length=X at*
    generalize U'.drop V'.length=Y at*
    have e2:=congrArg List.length e1
    simp only[List.length_append]at e2
    have w4:IntKind.i64.wrap (U'.length-(V'.length:Int))=((Y.length:Nat):Int):=by rw[wrap64_in _ (by omega) (by omega)];omega
    obtain⟨L2,hL2⟩:∃L2,L2=P'++V'++Y++X++Q':=⟨_,rfl⟩
    have hl2:L2.length=n:=by rw[hL2];simp only[List.length_append]at*;omega
    simp -implicitDefEqProofs only[↓reduceIte,go_sem,Nat.reduceLT,Nat.reduceEqDiff,reduceCtorEq,t10,t11,hij',hgt']
    simp -implicitDefEqProofs only[↓reduceIte,go_sem,Nat.reduceLT,Nat.reduceEqDiff,t0,t2,t4,t11,w3]
    refine ae.ok (kX H id ver hid g caps P' X Y V' Q' L' L2 P'.length m V'.length n (by rw[hL',←e1];simp) hL2 rfl l1 rfl (by omega) hn' hbig) ?_
    simp -implicitDefEqProofs only[↓reduceIte,go_sem,Nat.reduceLT,Nat.reduceEqDiff,t10,t11,w4]
    refine⟨_,_,⟨L2,P'++V',Y,X,Q'⟩,ay.refl _ _,⟨rfl,by rw[hL2];simp,by rw[hT',←e1];simp,?_,?_,?_,hl2,?_⟩,?_⟩
    ·simp only[List.length_append];omega
    ·simp only;omega
    ·simp only;omega
    ·simp -implicitDefEqProofs only[↓reduceIte,go_sem,Nat.reduceLT,Nat.reduceEqDiff,reduceCtorEq,t0,t2,t4,t11,l1]
    ·simp only;omega
   ·have hgt':(((V'.length:Nat):Int)<((U'.length:Nat):Int))=False:=eq_false (by omega)
    have e1:V'.take (V'.length-U'.length)++V'.drop (V'.length-U'.length)=V':=List.take_append_drop _ _
    have l1:(V'.take (V'.length-U'.length)).length=V'.length-U'.length:=by simp
    have l2:(V'.drop (V'.length-U'.length)).length=U'.length:=by simp;omega
    generalize V'.take (V'.length-U'.length)=Y at*
    generalize V'.drop (V'.length-U'.length)=Z at*
    have e2:=congrArg List.length e1
    simp only[List.length_append]at e2
    have w4:IntKind.i64.wrap (V'.length-(U'.length:Int))=((Y.length:Nat):Int):=by rw[wrap64_in _ (by omega) (by omega)];omega
    have w5:IntKind.i64.wrap ((m:Int)+(V'.length:Int))=(m:Int)+(V'.length:Int):=by rw[wrap64_in _ (by omega) (by omega)]
    have w6:IntKind.i64.wrap ((m:Int)+(V'.length:Int)-(U'.length:Int))=((m+Y.length:Nat):Int):=by rw[wrap64_in _ (by omega) (by omega)];omega
    obtain⟨L2,hL2⟩:∃L2,L2=P'++Z++Y++U'++Q':=⟨_,rfl⟩
    have hl2':L2.length=n:=by rw[hL2];simp only[List.length_append]at*;omega
    simp -implicitDefEqProofs only[↓reduceIte,go_sem,Nat.reduceLT,Nat.reduceEqDiff,reduceCtorEq,t10,t11,hij',hgt']
    simp -implicitDefEqProofs only[↓reduceIte,go_sem,Nat.reduceLT,Nat.reduceEqDiff,t0,t2,t4,t10,t11,w3,w5,w6]
    refine ae.ok (kX H id ver hid g caps P' U' Y Z Q' L' L2 P'.length (m+Y.length) U'.length n (by rw[hL',←e1];simp) hL2 rfl rfl l2 (by omega) hn' hbig) ?_
    simp -implicitDefEqProofs only[↓reduceIte,go_sem,Nat.reduceLT,Nat.reduceEqDiff,t10,t11,w4]
    refine⟨_,_,⟨L2,P',Z,Y,U'++Q'⟩,ay.refl _ _,⟨rfl,by rw[hL2];simp,by rw[hT',←e1];simp,?_,?_,?_,hl2',?_⟩,?_⟩
    ·simp only;omega
    ·simp only;omega
    ·simp only;omega
    ·simp -implicitDefEqProofs only[↓reduceIte,go_sem,Nat.reduceLT,Nat.reduceEqDiff,reduceCtorEq,t0,t2,t4,t10,l2]
    ·simp only;omega
end SV
end Go.Proofs.YtmbagpfmfiegkaaGreat
namespace Go.Proofs.YtmbagpfmfiegkaaGreat
open Go.Proofs.YtmbagpfmfiegkaaGreatAw Go.RowKit
namespace SV
def ec(c:aq→aq→Int)(x y:aq):Bool:=decide (c x y<0)
def oX(g:FuncId)(caps:List AV)(c:aq→aq→Int)(H:aa)(id:Nat):Prop:=∀(o:aT) (x y:aq),ag Tryz.prog g ([.agg ((aq.enc x).map .d),.agg ((aq.enc y).map .d)]++caps) (H.set id o) (.ok (iA (c x y))) (H.set id o)
theorem oX.at{g:FuncId}{caps:List AV}{c:aq→aq→Int}{H:aa}{id:Nat}(h:oX g caps c H id)(ver:Nat)(L:List aq)(x y:aq):ag Tryz.prog g ([.agg ((aq.enc x).map .d),.agg ((aq.enc y).map .d)]++caps) (aH H id ver L) (.ok (iA (c x y))) (aH H id ver L):=h _ x y
structure Nv where
 L:List aq
 A:List aq
 B:List aq
theorem n5(H:aa)(id ver:Nat)(hid:id<H.length)(g:FuncId)(caps:List AV)(c:aq→aq→Int)(ho:St.Ord (ec c))(hc:oX g caps c H id)(P X Q L L':List aq)(hL:L=P++X++Q)(hL':L'=P++St.ct (ec c) X++Q)(a b n:Nat)(ha:P.length=a)(hb:P.length+X.length=b)
  (hn:L.length=n) (hbig:n≤1000000000000):
  ag Tryz.prog 179 [.sl id ver 0 n,iA a,iA b,.fn g caps] (aH H id ver L) (.ok (.bz [])) (aH H id ver L'):=by
 have hnl:P.length+X.length+Q.length=n:=by rw[←hn,hL];simp;omega
 generalize hE0:aH H id ver L=E0
 have w1:IntKind.i64.wrap ((a:Int)+1)=(a:Int)+1:=wrap64_in _ (by omega) (by omega)
 refine ag.aj (hint:=(fun _=>false)) Tryz.func179 (by kernel_rfl) rfl [] (by kernel_rfl) (by decide) (by simp[Tryz.ntmps179]) ?_
 rw[Tryz.ntmps179]
 simp -implicitDefEqProofs only[↓reduceIte,go_sem,Nat.reduceLT,w1]
 refine aP (fun k s H'=>(∃Lk,H'=aH H id ver Lk∧Lk=P++(St.ct (ec c) (X.take (k+1))++(X.drop (k+1)++Q)))∧s 0= .sl id ver 0 n∧s 1=iA a∧s 2=iA b∧s 3= .fn g caps∧s 8=iA ((a:Int)+1+(k:Int))) (X.length-1) (by omega) (ay.refl _ _) ?_ ?_ ?_
 ·refine⟨⟨L,hE0.symm,?_⟩,?_⟩
  ·have:St.ct (ec c) (X.take 1)=X.take 1:=by cases X<;>rfl
   rw[hL,this,←List.append_assoc (X.take 1),List.take_append_drop,List.append_assoc]
  ·simp -implicitDefEqProofs only[↓reduceIte,go_sem,Nat.reduceLT,Nat.reduceEqDiff,reduceCtorEq,Int.add_zero]
 ·rintro k s H' hk hw ⟨⟨Lk,rfl,hLk⟩,t0,t1,t2,t3,t8⟩
  have hkx:k+1<X.length:=by omega
  have e1:X.drop (k+1)=X[k+1]::X.drop (k+1+1):=List.drop_eq_getElem_cons hkx
  have e2:X.take (k+1+1)=X.take (k+1)++[X[k+1]]:=List.take_succ_eq_append_getElem hkx
  have hSl:=St.dm (lt:=ec c) (X.take (k+1))
  have hXl:(X.take (k+1)).length=k+1:=by simp;omega
  have hRl:(X.drop (k+1+1)).length=X.length-(k+2):=by simp
  rw[e1]at hLk
  rw[e2]
  have hlt:((a:Int)+1+(k:Int)<(b:Int))=True:=eq_true (by omega)
  have hss:=St.dC ho (X.take (k+1))
  generalize X[k+1]=x at*
  generalize X.drop (k+1+1)=R0 at*
  generalize X.take (k+1)=X0 at*
  generalize hS:St.ct (ec c) X0=S at*
  simp -implicitDefEqProofs only[↓reduceIte,go_sem,Nat.reduceLT,Nat.reduceEqDiff,t2,t8,hlt]
  refine cl _ _ _ _ (fun(z:Nv) s H'=>H'=aH H id ver z.L∧z.L=P++z.A++x::(z.B++(R0++Q))∧z.A++z.B=S∧(∀y∈z.B,ec c x y=true)∧s 0= .sl id ver 0 n∧s 1=iA a∧s 2=iA b∧s 3= .fn g caps∧s 8=iA ((a:Int)+1+(k:Int))∧s 9=iA ((a+z.A.length:Nat):Int)) (fun z=>z.A.length) ⟨Lk,S,[]⟩ (ay.refl _ _) ?_ ?_
  ·refine⟨rfl,by rw[hLk];simp,by simp,by simp,?_⟩
   simp -implicitDefEqProofs only[↓reduceIte,go_sem,Nat.reduceLT,Nat.reduceEqDiff,reduceCtorEq,t0,t1,t2,t3,t8,show((a:Int)+1+(k:Int))=((a+S.length:Nat):Int) by omega]
  ·rintro⟨L1,A,B⟩ s H' ⟨rfl,hL1,hAB,hB,t0,t1,t2,t3,t8,t9⟩
   simp only at hL1 hAB hB t0 t1 t2 t3 t8 t9
   have hABl:A.length+B.length=k+1:=by rw[←List.length_append,hAB,hSl,hXl]
   have hL1n:L1.length=n:=by rw[hL1];simp;omega
   have fin:(∀y∈A,ec c x y=false)→L1=P++(St.ct (ec c) (X0++[x])++(R0++Q)):=fun hA=>by
    rw[hL1,←St.insert_eq ho (hAB.trans hS.symm) hB hA];simp
   obtain⟨j,hj⟩:∃j,j=a+A.length:=⟨_,rfl⟩
   rw[←hj]at t9
   have hw8:IntKind.i64.wrap ((a:Int)+1+(k:Int)+1)=(a:Int)+1+((k:Int)+1):=by rw[wrap64_in _ (by omega) (by omega)];omega
   rcases List.eq_nil_or_concat A with rfl|⟨A',z,rfl⟩
   ·have hja:((a:Int)<(j:Int))=False:=eq_false (by simp at hj;omega)
    simp -implicitDefEqProofs only[go_sem]
    refine aO K.mixed (by kernel_rfl) ?_
    simp -implicitDefEqProofs only[↓reduceIte,go_sem,Nat.reduceLT,Nat.reduceEqDiff,reduceCtorEq,t1,t9,hja,t8,hw8]
    refine c9.same ⟨⟨L1,rfl,fin (by simp)⟩,?_⟩
    simp -implicitDefEqProofs only[↓reduceIte,go_sem,Nat.reduceLT,Nat.reduceEqDiff,reduceCtorEq,t0,t1,t2,t3]
   ·simp only[List.concat_eq_append,List.length_append,List.length_singleton]at hL1 hAB hj hABl fin
    have hja:((a:Int)<(j:Int))=True:=eq_true (by omega)
    obtain⟨i,hi⟩:∃i,i=a+A'.length:=⟨_,rfl⟩
    have hw9:IntKind.i64.wrap ((j:Int)-1)=(i:Int):=by rw[wrap64_in _ (by omega) (by omega)];omega
    have hL1':L1=(P++A')++z::(x::(B++(R0++Q))):=by rw[hL1];simp
    have hL1'':L1=(P++A'++[z])++x::(B++(R0++Q)):=by rw[hL1];simp
    have gz:L1[i]?=some z:=by rw[hL1'];exact get_at (by simp;omega)
    have gx:L1[j]?=some x:=by rw[hL1''];exact get_at (by simp;omega)
    have il:i<n:=by omega
    have jl:j<n:=by omega
    have st:(L1.set j z).set i x=P++A'++x::(z::B++(R0++Q)):=by
     rw[hL1'',jq (by simp;omega)]
     have:P++A'++[z]++z::(B++(R0++Q))=(P++A')++z::(z::(B++(R0++Q))):=by simp
     rw[this,jq (by simp;omega)]
     simp
    have gz':=dg gz
    have gx':=dg gx
    have gz2:((L1.set j z).map aq.enc)[i]?=some z.enc:=by
     refine dg ?_
     rw[List.getElem?_set,if_neg (by omega)];exact gz
    have s1:=jc L1 j z
    have s2:=jc (L1.set j z) i x
    rw[st]at s2
    have gh:=jy hid ver L1
    have hd:=hc.at ver L1 x z
    simp only[aq.enc]at gz' gx' gz2 s1 s2
    simp only[aq.enc,List.map_cons,List.map_nil]at hd
    simp -implicitDefEqProofs only[go_sem]
    refine aO K.mixed (by kernel_rfl) ?_
    simp -implicitDefEqProofs only[↓reduceIte,go_sem,ah,Nat.reduceAdd,Nat.reduceLT,Nat.reduceEqDiff,reduceCtorEq,t0,t1,t3,t9,hja,hw9,il,jl,gh,gz',gx']
    refine ae.ok hd ?_
    by_cases hlt2:c x z<0
    ·have hltb:ec c x z=true:=by simp[ec,hlt2]
     simp -implicitDefEqProofs only[↓reduceIte,go_sem,Nat.reduceLT,Nat.reduceEqDiff,hlt2]
     refine kx [false,false,false,false,false,false,false,false,false,false,false,false,false,false,true,true,true,true] 14 K.mixed (by kernel_rfl) (by kernel_rfl) (by kernel_rfl) ?_
     simp -implicitDefEqProofs only[↓reduceIte,go_sem,ah,au,Nat.reduceAdd,Nat.reduceLT,Nat.reduceEqDiff,reduceCtorEq,t0,t9,hw9,il,jl,gh,gz',gx',pN,s1,gz2,s2,hid,List.getElem?_set_self,List.set_set]
     refine⟨_,_,⟨_,A',z::B⟩,ay.refl _ _,⟨by rw[←oY],rfl,by rw[←hAB];simp,?_,?_⟩,by simp⟩
     ·intro y hy
      rcases List.mem_cons.1 hy with rfl|hy
      ·exact hltb
      ·exact hB y hy
     ·simp -implicitDefEqProofs only[↓reduceIte,go_sem,Nat.reduceLT,Nat.reduceEqDiff,reduceCtorEq,t0,t1,t2,t3,t8,show((a:Int)+(A'.length:Int))=(i:Int) by omega]
    ·have hltb:ec c x z=false:=by simp[ec,hlt2]
     have hAx:∀y∈A'++[z],ec c x y=false:=by
      intro y hy
      have hso:=hss
      rw[←hAB]at hso
      rcases List.mem_append.1 hy with hy|hy
      ·exact ho.le_trans (hso.left.C3 y hy z (by simp)) hltb
      ·simp at hy;rw[hy];exact hltb
     simp -implicitDefEqProofs only[↓reduceIte,go_sem,Nat.reduceLT,Nat.reduceEqDiff,hlt2,t8,hw8]
     refine c9.same ⟨⟨L1,rfl,fin hAx⟩,?_⟩
     simp -implicitDefEqProofs only[↓reduceIte,go_sem,Nat.reduceLT,Nat.reduceEqDiff,reduceCtorEq,t0,t1,t2,t3]
 ·rintro s H' ⟨⟨Lk,rfl,hLk⟩,t0,t1,t2,t3,t8⟩
  have hlt:((a:Int)+1+((X.length-1:Nat):Int)<(b:Int))=False:=eq_false (by omega)
  simp -implicitDefEqProofs only[↓reduceIte,go_sem,Nat.reduceLT,Nat.reduceEqDiff,t2,t8,hlt]
  have:Lk=L':=by
   rw[hLk,hL',List.take_of_length_le (by omega),List.drop_of_length_le (by omega)];simp
  rw[this]
  exact⟨_,ay.refl _ _,rfl⟩
end SV
end Go.Proofs.YtmbagpfmfiegkaaGreat
